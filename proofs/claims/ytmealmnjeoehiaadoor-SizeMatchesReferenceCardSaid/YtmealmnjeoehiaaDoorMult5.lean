import Derived.Test.YtmealmnjeoehiaaDoorMult1
namespace Go.Proofs.YtmealmnjeoehiaaDoor
open Go.RowKit

set_option maxRecDepth 100000 in
set_option maxHeartbeats 8000000 in
theorem multiples_ps_ft (lo hi m n ul uh xl xh yl yh zl zh wl wh : Int) (w : World) (hL : Logs w) (h1 : validS lo hi = true) (hr : (-1000000 ≤ m ∧ m ≤ 1000000 ∧ -1000000 ≤ n ∧ n ≤ 1000000)) (_hmul : -1000000000000 ≤ m * n ∧ m * n ≤ 1000000000000) (e1 : (fits lo m && fits hi m) = true) (f1 : (fits lo n && fits hi n) = true) (xv : validS xl xh = true) (x1 : timesLo lo hi m = xl) (x2 : timesHi lo hi m = xh) (yv : validS yl yh = true) (y1 : timesLo lo hi n = yl) (y2 : timesHi lo hi n = yh) (m0 : 0 ≤ m) (n0 : 0 ≤ n) (z1 : xl + yl = zl) (z2 : xh + yh = zh) (zv : validS zl zh = false) (zf : (fits lo (m + n) && fits hi (m + n)) = false) (uf : (fits lo (-1) && fits hi (-1)) = true) (u1 : timesLo lo hi (-1) = ul) (u2 : timesHi lo hi (-1) = uh) (uv : validS ul uh = true) (u3 : 0 - hi = ul) (u4 : 0 - lo = uh) (zero : validS 0 0 = true) (pf : (fits xl n && fits xh n) = true) (qf : (fits lo (m * n) && fits hi (m * n)) = true) (p1 : timesLo xl xh n = wl) (p2 : timesHi xl xh n = wh) (q1 : timesLo lo hi (m * n) = wl) (q2 : timesHi lo hi (m * n) = wh) :
    Calls Tryd.prog 7 #[.agg #[.int .i64 lo, .int .i64 hi], .int .i64 m, .int .i64 n] w fun e w' => e = .returned (.bool true) ∧ Gr w w' := by
  have HL := Lib.hid hL
  obtain ⟨k1, k2, k3, k4⟩ := hr
  have He1 := Lib.hid e1
  have Hf1 := Lib.hid f1
  have Hxv := Lib.hid xv
  have Hx1 := Lib.hid x1
  have Hx2 := Lib.hid x2
  have Hyv := Lib.hid yv
  have Hy1 := Lib.hid y1
  have Hy2 := Lib.hid y2
  have Hz1 := Lib.hid z1
  have Hz2 := Lib.hid z2
  have Hzv := Lib.hid zv
  have Hzf := Lib.hid zf
  have Huf := Lib.hid uf
  have Hu1 := Lib.hid u1
  have Hu2 := Lib.hid u2
  have Huv := Lib.hid uv
  have Hu3 := Lib.hid u3
  have Hu4 := Lib.hid u4
  have Hzero := Lib.hid zero
  have Hpf := Lib.hid pf
  have Hqf := Lib.hid qf
  have Hp1 := Lib.hid p1
  have Hp2 := Lib.hid p2
  have Hq1 := Lib.hid q1
  have Hq2 := Lib.hid q2
  clear hL e1 f1 xv x1 x2 yv y1 y2 z1 z2 zv zf uf u1 u2 uv u3 u4 zero pf qf p1 p2 q1 q2
  go_enter Tryd.func7, Tryd.ntmps7
  go_wp2_with (first | (go_at_call 12; with_reducible refine (head_any _ (HL.out.keep (by repeat (first | exact Gr.refl _ | refine Gr.alloc ?_ _ | refine Gr.drew ?_ | refine Gr.trans ?_ (by assumption) | refine Gr.setCell ?_ (by (try simp); (try omega)) _)))).mono ?_; rintro e w' ⟨rfl, hb⟩; have hz := hb.le; obtain ⟨hc, hf⟩ := hb.cells; (try simp only [World.size_alloc] at hc hf hz); (try simp only [World.size_setCell] at hc hf hz); (try simp only [World.size_drew] at hc hf hz)) | (go_at_call 14; with_reducible refine (valid_any _ _ _).mono ?_; rintro e w' ⟨rfl, hb⟩; have hz := hb.le; obtain ⟨hc, hf⟩ := hb.cells; (try simp only [World.size_alloc] at hc hf hz); (try simp only [World.size_setCell] at hc hf hz); (try simp only [World.size_drew] at hc hf hz)) | (go_at_call 24; with_reducible refine (times_is _ h1 He1.out Hx1.out Hx2.out).mono ?_; rintro e w' ⟨rfl, hb⟩; have hz := hb.le; obtain ⟨hc, hf⟩ := hb.cells; (try simp only [World.size_alloc] at hc hf hz); (try simp only [World.size_setCell] at hc hf hz); (try simp only [World.size_drew] at hc hf hz)) | (go_at_call 24; with_reducible refine (times_is _ h1 Hf1.out Hy1.out Hy2.out).mono ?_; rintro e w' ⟨rfl, hb⟩; have hz := hb.le; obtain ⟨hc, hf⟩ := hb.cells; (try simp only [World.size_alloc] at hc hf hz); (try simp only [World.size_setCell] at hc hf hz); (try simp only [World.size_drew] at hc hf hz)) | (go_at_call 19; with_reducible refine (add_no _ Hxv.out Hyv.out Hzv.out Hz1.out Hz2.out).mono ?_; rintro e w' ⟨rfl, hb⟩; have hz := hb.le; obtain ⟨hc, hf⟩ := hb.cells; (try simp only [World.size_alloc] at hc hf hz); (try simp only [World.size_setCell] at hc hf hz); (try simp only [World.size_drew] at hc hf hz)) | (go_at_call 24; with_reducible refine (times_out _ _ _ _ h1 Hzf.out).mono ?_; rintro e w' ⟨rfl, hb⟩; have hz := hb.le; obtain ⟨hc, hf⟩ := hb.cells; (try simp only [World.size_alloc] at hc hf hz); (try simp only [World.size_setCell] at hc hf hz); (try simp only [World.size_drew] at hc hf hz)) | (go_at_call 24; with_reducible refine (times_is _ h1 Huf.out Hu1.out Hu2.out).mono ?_; rintro e w' ⟨rfl, hb⟩; have hz := hb.le; obtain ⟨hc, hf⟩ := hb.cells; (try simp only [World.size_alloc] at hc hf hz); (try simp only [World.size_setCell] at hc hf hz); (try simp only [World.size_drew] at hc hf hz)) | (go_at_call 25; with_reducible refine (sub_is _ Hzero.out h1 Huv.out Hu3.out Hu4.out).mono ?_; rintro e w' ⟨rfl, hb⟩; have hz := hb.le; obtain ⟨hc, hf⟩ := hb.cells; (try simp only [World.size_alloc] at hc hf hz); (try simp only [World.size_setCell] at hc hf hz); (try simp only [World.size_drew] at hc hf hz)) | (go_at_call 24; with_reducible refine (times_is _ Hxv.out Hpf.out Hp1.out Hp2.out).mono ?_; rintro e w' ⟨rfl, hb⟩; have hz := hb.le; obtain ⟨hc, hf⟩ := hb.cells; (try simp only [World.size_alloc] at hc hf hz); (try simp only [World.size_setCell] at hc hf hz); (try simp only [World.size_drew] at hc hf hz)) | (go_at_call 24; with_reducible refine (times_is _ h1 Hqf.out Hq1.out Hq2.out).mono ?_; rintro e w' ⟨rfl, hb⟩; have hz := hb.le; obtain ⟨hc, hf⟩ := hb.cells; (try simp only [World.size_alloc] at hc hf hz); (try simp only [World.size_setCell] at hc hf hz); (try simp only [World.size_drew] at hc hf hz)))
  all_goals
    go_ret
    refine ⟨ret_bool ?_, (by repeat (first | exact Gr.refl _ | refine Gr.alloc ?_ _ | refine Gr.drew ?_ | refine Gr.trans ?_ (by assumption) | refine Gr.setCell ?_ (by (try simp); (try omega)) _))⟩
    first | rfl | (simp; omega) | simp | omega

set_option maxRecDepth 100000 in
set_option maxHeartbeats 8000000 in
theorem multiples_ps_ff (lo hi m n ul uh xl xh yl yh zl zh : Int) (w : World) (hL : Logs w) (h1 : validS lo hi = true) (hr : (-1000000 ≤ m ∧ m ≤ 1000000 ∧ -1000000 ≤ n ∧ n ≤ 1000000)) (_hmul : -1000000000000 ≤ m * n ∧ m * n ≤ 1000000000000) (e1 : (fits lo m && fits hi m) = true) (f1 : (fits lo n && fits hi n) = true) (xv : validS xl xh = true) (x1 : timesLo lo hi m = xl) (x2 : timesHi lo hi m = xh) (yv : validS yl yh = true) (y1 : timesLo lo hi n = yl) (y2 : timesHi lo hi n = yh) (m0 : 0 ≤ m) (n0 : 0 ≤ n) (z1 : xl + yl = zl) (z2 : xh + yh = zh) (zv : validS zl zh = false) (zf : (fits lo (m + n) && fits hi (m + n)) = false) (uf : (fits lo (-1) && fits hi (-1)) = true) (u1 : timesLo lo hi (-1) = ul) (u2 : timesHi lo hi (-1) = uh) (uv : validS ul uh = true) (u3 : 0 - hi = ul) (u4 : 0 - lo = uh) (zero : validS 0 0 = true) (pf : (fits xl n && fits xh n) = false) (qf : (fits lo (m * n) && fits hi (m * n)) = false) :
    Calls Tryd.prog 7 #[.agg #[.int .i64 lo, .int .i64 hi], .int .i64 m, .int .i64 n] w fun e w' => e = .returned (.bool true) ∧ Gr w w' := by
  have HL := Lib.hid hL
  obtain ⟨k1, k2, k3, k4⟩ := hr
  have He1 := Lib.hid e1
  have Hf1 := Lib.hid f1
  have Hxv := Lib.hid xv
  have Hx1 := Lib.hid x1
  have Hx2 := Lib.hid x2
  have Hyv := Lib.hid yv
  have Hy1 := Lib.hid y1
  have Hy2 := Lib.hid y2
  have Hz1 := Lib.hid z1
  have Hz2 := Lib.hid z2
  have Hzv := Lib.hid zv
  have Hzf := Lib.hid zf
  have Huf := Lib.hid uf
  have Hu1 := Lib.hid u1
  have Hu2 := Lib.hid u2
  have Huv := Lib.hid uv
  have Hu3 := Lib.hid u3
  have Hu4 := Lib.hid u4
  have Hzero := Lib.hid zero
  have Hpf := Lib.hid pf
  have Hqf := Lib.hid qf
  clear hL e1 f1 xv x1 x2 yv y1 y2 z1 z2 zv zf uf u1 u2 uv u3 u4 zero pf qf
  go_enter Tryd.func7, Tryd.ntmps7
  go_wp2_with (first | (go_at_call 12; with_reducible refine (head_any _ (HL.out.keep (by repeat (first | exact Gr.refl _ | refine Gr.alloc ?_ _ | refine Gr.drew ?_ | refine Gr.trans ?_ (by assumption) | refine Gr.setCell ?_ (by (try simp); (try omega)) _)))).mono ?_; rintro e w' ⟨rfl, hb⟩; have hz := hb.le; obtain ⟨hc, hf⟩ := hb.cells; (try simp only [World.size_alloc] at hc hf hz); (try simp only [World.size_setCell] at hc hf hz); (try simp only [World.size_drew] at hc hf hz)) | (go_at_call 14; with_reducible refine (valid_any _ _ _).mono ?_; rintro e w' ⟨rfl, hb⟩; have hz := hb.le; obtain ⟨hc, hf⟩ := hb.cells; (try simp only [World.size_alloc] at hc hf hz); (try simp only [World.size_setCell] at hc hf hz); (try simp only [World.size_drew] at hc hf hz)) | (go_at_call 24; with_reducible refine (times_is _ h1 He1.out Hx1.out Hx2.out).mono ?_; rintro e w' ⟨rfl, hb⟩; have hz := hb.le; obtain ⟨hc, hf⟩ := hb.cells; (try simp only [World.size_alloc] at hc hf hz); (try simp only [World.size_setCell] at hc hf hz); (try simp only [World.size_drew] at hc hf hz)) | (go_at_call 24; with_reducible refine (times_is _ h1 Hf1.out Hy1.out Hy2.out).mono ?_; rintro e w' ⟨rfl, hb⟩; have hz := hb.le; obtain ⟨hc, hf⟩ := hb.cells; (try simp only [World.size_alloc] at hc hf hz); (try simp only [World.size_setCell] at hc hf hz); (try simp only [World.size_drew] at hc hf hz)) | (go_at_call 19; with_reducible refine (add_no _ Hxv.out Hyv.out Hzv.out Hz1.out Hz2.out).mono ?_; rintro e w' ⟨rfl, hb⟩; have hz := hb.le; obtain ⟨hc, hf⟩ := hb.cells; (try simp only [World.size_alloc] at hc hf hz); (try simp only [World.size_setCell] at hc hf hz); (try simp only [World.size_drew] at hc hf hz)) | (go_at_call 24; with_reducible refine (times_out _ _ _ _ h1 Hzf.out).mono ?_; rintro e w' ⟨rfl, hb⟩; have hz := hb.le; obtain ⟨hc, hf⟩ := hb.cells; (try simp only [World.size_alloc] at hc hf hz); (try simp only [World.size_setCell] at hc hf hz); (try simp only [World.size_drew] at hc hf hz)) | (go_at_call 24; with_reducible refine (times_is _ h1 Huf.out Hu1.out Hu2.out).mono ?_; rintro e w' ⟨rfl, hb⟩; have hz := hb.le; obtain ⟨hc, hf⟩ := hb.cells; (try simp only [World.size_alloc] at hc hf hz); (try simp only [World.size_setCell] at hc hf hz); (try simp only [World.size_drew] at hc hf hz)) | (go_at_call 25; with_reducible refine (sub_is _ Hzero.out h1 Huv.out Hu3.out Hu4.out).mono ?_; rintro e w' ⟨rfl, hb⟩; have hz := hb.le; obtain ⟨hc, hf⟩ := hb.cells; (try simp only [World.size_alloc] at hc hf hz); (try simp only [World.size_setCell] at hc hf hz); (try simp only [World.size_drew] at hc hf hz)) | (go_at_call 24; with_reducible refine (times_out _ _ _ _ Hxv.out Hpf.out).mono ?_; rintro e w' ⟨rfl, hb⟩; have hz := hb.le; obtain ⟨hc, hf⟩ := hb.cells; (try simp only [World.size_alloc] at hc hf hz); (try simp only [World.size_setCell] at hc hf hz); (try simp only [World.size_drew] at hc hf hz)) | (go_at_call 24; with_reducible refine (times_out _ _ _ _ h1 Hqf.out).mono ?_; rintro e w' ⟨rfl, hb⟩; have hz := hb.le; obtain ⟨hc, hf⟩ := hb.cells; (try simp only [World.size_alloc] at hc hf hz); (try simp only [World.size_setCell] at hc hf hz); (try simp only [World.size_drew] at hc hf hz)))
  all_goals
    go_ret
    refine ⟨ret_bool ?_, (by repeat (first | exact Gr.refl _ | refine Gr.alloc ?_ _ | refine Gr.drew ?_ | refine Gr.trans ?_ (by assumption) | refine Gr.setCell ?_ (by (try simp); (try omega)) _))⟩
    first | rfl | (simp; omega) | simp | omega
end Go.Proofs.YtmealmnjeoehiaaDoor
