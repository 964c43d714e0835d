import Derived.Test.YtmealmnjeoehiaaDoorNearA
import Derived.Test.YtmealmnjeoehiaaDoorNearB
import Derived.Test.YtmealmnjeoehiaaDoorNearC
import Derived.Test.YtmealmnjeoehiaaDoorNearD
import Derived.Test.YtmealmnjeoehiaaDoorNearE
namespace Go.Proofs.YtmealmnjeoehiaaDoor
open Go.RowKit

theorem near_law (p0 p1 p2 p3 p4 p5 q0 q1 q2 q3 q4 q5 r0 r1 r2 r3 r4 r5 b more : Int) (w : World) (hL : Logs w) :
    Calls Tryd.prog 5 #[.agg #[.int .i64 p0, .int .i64 p1, .int .i64 p2, .int .i64 p3, .int .i64 p4, .int .i64 p5], .agg #[.int .i64 q0, .int .i64 q1, .int .i64 q2, .int .i64 q3, .int .i64 q4, .int .i64 q5], .agg #[.int .i64 r0, .int .i64 r1, .int .i64 r2, .int .i64 r3, .int .i64 r4, .int .i64 r5], .int .i64 b, .int .i64 more] w fun e w' => e = .returned (.bool true) ∧ Gr w w' := by
  cases hp : allIn ⟨p0, p1, p2, p3, p4, p5⟩ 576 6
  · exact nearlaw_bad1 p0 p1 p2 p3 p4 p5 q0 q1 q2 q3 q4 q5 r0 r1 r2 r3 r4 r5 b more w hL hp
  cases hq : allIn ⟨q0, q1, q2, q3, q4, q5⟩ 576 6
  · exact nearlaw_bad2 p0 p1 p2 p3 p4 p5 q0 q1 q2 q3 q4 q5 r0 r1 r2 r3 r4 r5 b more w hL hp hq
  cases hr : allIn ⟨r0, r1, r2, r3, r4, r5⟩ 576 6
  · exact nearlaw_bad3 p0 p1 p2 p3 p4 p5 q0 q1 q2 q3 q4 q5 r0 r1 r2 r3 r4 r5 b more w hL hp hq hr
  by_cases hb : 0 ≤ b ∧ b ≤ more ∧ more ≤ 2400000
  case neg => exact nearlaw_bad4 p0 p1 p2 p3 p4 p5 q0 q1 q2 q3 q4 q5 r0 r1 r2 r3 r4 r5 b more w hL hp hq hr hb
  obtain ⟨b0, b1, b2⟩ := hb
  have n4 : surelyI (sumLo ⟨p0 - p0, p1 - p1, p2 - p2, p3 - p3, p4 - p4, p5 - p5⟩ 6) (sumHi ⟨p0 - p0, p1 - p1, p2 - p2, p3 - p3, p4 - p4, p5 - p5⟩ 6) (-10000 * b) (10000 * b) = 1 := near_self ⟨p0, p1, p2, p3, p4, p5⟩ b b0
  have n2 : surelyI (sumLo ⟨q0 - p0, q1 - p1, q2 - p2, q3 - p3, q4 - p4, q5 - p5⟩ 6) (sumHi ⟨q0 - p0, q1 - p1, q2 - p2, q3 - p3, q4 - p4, q5 - p5⟩ 6) (-10000 * b) (10000 * b) = surelyI (sumLo ⟨p0 - q0, p1 - q1, p2 - q2, p3 - q3, p4 - q4, p5 - q5⟩ 6) (sumHi ⟨p0 - q0, p1 - q1, p2 - q2, p3 - q3, p4 - q4, p5 - q5⟩ 6) (-10000 * b) (10000 * b) := by
    have h := sum_swap ⟨p0, p1, p2, p3, p4, p5⟩ ⟨q0, q1, q2, q3, q4, q5⟩ 6 (by omega)
    have h1 : sumLo ⟨q0 - p0, q1 - p1, q2 - p2, q3 - p3, q4 - p4, q5 - p5⟩ 6 = _ := h.1
    have h2 : sumHi ⟨q0 - p0, q1 - p1, q2 - p2, q3 - p3, q4 - p4, q5 - p5⟩ 6 = _ := h.2
    rw [h1, h2]
    exact surely_swap _ _ _
  have hn : surelyI (sumLo ⟨p0 + r0 - (q0 + r0), p1 + r1 - (q1 + r1), p2 + r2 - (q2 + r2), p3 + r3 - (q3 + r3), p4 + r4 - (q4 + r4), p5 + r5 - (q5 + r5)⟩ 6) (sumHi ⟨p0 + r0 - (q0 + r0), p1 + r1 - (q1 + r1), p2 + r2 - (q2 + r2), p3 + r3 - (q3 + r3), p4 + r4 - (q4 + r4), p5 + r5 - (q5 + r5)⟩ 6) (-10000 * b) (10000 * b) = surelyI (sumLo ⟨p0 - q0, p1 - q1, p2 - q2, p3 - q3, p4 - q4, p5 - q5⟩ 6) (sumHi ⟨p0 - q0, p1 - q1, p2 - q2, p3 - q3, p4 - q4, p5 - q5⟩ 6) (-10000 * b) (10000 * b) := by
    have e0 : p0 + r0 - (q0 + r0) = p0 - q0 := by omega
    have e1 : p1 + r1 - (q1 + r1) = p1 - q1 := by omega
    have e2 : p2 + r2 - (q2 + r2) = p2 - q2 := by omega
    have e3 : p3 + r3 - (q3 + r3) = p3 - q3 := by omega
    have e4 : p4 + r4 - (q4 + r4) = p4 - q4 := by omega
    have e5 : p5 + r5 - (q5 + r5) = p5 - q5 := by omega
    rw [e0, e1, e2, e3, e4, e5]
  have hle : sumLo ⟨p0 - q0, p1 - q1, p2 - q2, p3 - q3, p4 - q4, p5 - q5⟩ 6 ≤ sumHi ⟨p0 - q0, p1 - q1, p2 - q2, p3 - q3, p4 - q4, p5 - q5⟩ 6 := sum_le _ 6 (by omega)
  have mono1 : surelyI (sumLo ⟨p0 - q0, p1 - q1, p2 - q2, p3 - q3, p4 - q4, p5 - q5⟩ 6) (sumHi ⟨p0 - q0, p1 - q1, p2 - q2, p3 - q3, p4 - q4, p5 - q5⟩ 6) (-10000 * b) (10000 * b) = 1 → surelyI (sumLo ⟨p0 - q0, p1 - q1, p2 - q2, p3 - q3, p4 - q4, p5 - q5⟩ 6) (sumHi ⟨p0 - q0, p1 - q1, p2 - q2, p3 - q3, p4 - q4, p5 - q5⟩ 6) (-10000 * more) (10000 * more) = 1 := fun h => by
    have := surely_one h
    exact surely_mk (by omega)
  have mono2 : surelyI (sumLo ⟨p0 - q0, p1 - q1, p2 - q2, p3 - q3, p4 - q4, p5 - q5⟩ 6) (sumHi ⟨p0 - q0, p1 - q1, p2 - q2, p3 - q3, p4 - q4, p5 - q5⟩ 6) (-10000 * more) (10000 * more) = -1 → surelyI (sumLo ⟨p0 - q0, p1 - q1, p2 - q2, p3 - q3, p4 - q4, p5 - q5⟩ 6) (sumHi ⟨p0 - q0, p1 - q1, p2 - q2, p3 - q3, p4 - q4, p5 - q5⟩ 6) (-10000 * b) (10000 * b) = -1 := fun h => by
    have := surely_neg h
    exact surely_mkneg hle (by omega)
  have tri : surelyI (sumLo ⟨p0 - q0, p1 - q1, p2 - q2, p3 - q3, p4 - q4, p5 - q5⟩ 6) (sumHi ⟨p0 - q0, p1 - q1, p2 - q2, p3 - q3, p4 - q4, p5 - q5⟩ 6) (-10000 * b) (10000 * b) = 1 → surelyI (sumLo ⟨q0 - r0, q1 - r1, q2 - r2, q3 - r3, q4 - r4, q5 - r5⟩ 6) (sumHi ⟨q0 - r0, q1 - r1, q2 - r2, q3 - r3, q4 - r4, q5 - r5⟩ 6) (-10000 * more) (10000 * more) = 1 → surelyI (sumLo ⟨p0 - r0, p1 - r1, p2 - r2, p3 - r3, p4 - r4, p5 - r5⟩ 6) (sumHi ⟨p0 - r0, p1 - r1, p2 - r2, p3 - r3, p4 - r4, p5 - r5⟩ 6) (-10000 * (b + more)) (10000 * (b + more)) = 1 := fun h1 h2 => by
    have := surely_one h1
    have := surely_one h2
    have t := sum_tri ⟨p0, p1, p2, p3, p4, p5⟩ ⟨q0, q1, q2, q3, q4, q5⟩ ⟨r0, r1, r2, r3, r4, r5⟩
    have t1 : sumLo ⟨p0 - q0, p1 - q1, p2 - q2, p3 - q3, p4 - q4, p5 - q5⟩ 6 + sumLo ⟨q0 - r0, q1 - r1, q2 - r2, q3 - r3, q4 - r4, q5 - r5⟩ 6 ≤ sumLo ⟨p0 - r0, p1 - r1, p2 - r2, p3 - r3, p4 - r4, p5 - r5⟩ 6 := t.1
    have t2 : sumHi ⟨p0 - r0, p1 - r1, p2 - r2, p3 - r3, p4 - r4, p5 - r5⟩ 6 ≤ sumHi ⟨p0 - q0, p1 - q1, p2 - q2, p3 - q3, p4 - q4, p5 - q5⟩ 6 + sumHi ⟨q0 - r0, q1 - r1, q2 - r2, q3 - r3, q4 - r4, q5 - r5⟩ 6 := t.2
    exact surely_mk (by omega)
  rcases surely_vals' (sumLo ⟨p0 - q0, p1 - q1, p2 - q2, p3 - q3, p4 - q4, p5 - q5⟩ 6) (sumHi ⟨p0 - q0, p1 - q1, p2 - q2, p3 - q3, p4 - q4, p5 - q5⟩ 6) (-10000 * b) (10000 * b) with n1 | n1 | n1 <;> rw [n1] at n2 hn <;> cases hs : allIn ⟨p0 + r0, p1 + r1, p2 + r2, p3 + r3, p4 + r4, p5 + r5⟩ 576 6 <;> cases ht : allIn ⟨q0 + r0, q1 + r1, q2 + r2, q3 + r3, q4 + r4, q5 + r5⟩ 576 6
  · exact nearlaw_m_xx_ok p0 p1 p2 p3 p4 p5 q0 q1 q2 q3 q4 q5 r0 r1 r2 r3 r4 r5 b more _ _ w hL hp hq hr b0 b1 b2 n1 n2 rfl n4 rfl hs ht
  · exact nearlaw_m_xo_ok p0 p1 p2 p3 p4 p5 q0 q1 q2 q3 q4 q5 r0 r1 r2 r3 r4 r5 b more _ _ w hL hp hq hr b0 b1 b2 n1 n2 rfl n4 rfl hs ht
  · exact nearlaw_m_ox_ok p0 p1 p2 p3 p4 p5 q0 q1 q2 q3 q4 q5 r0 r1 r2 r3 r4 r5 b more _ _ w hL hp hq hr b0 b1 b2 n1 n2 rfl n4 rfl hs ht
  · exact nearlaw_m_oo_ok p0 p1 p2 p3 p4 p5 q0 q1 q2 q3 q4 q5 r0 r1 r2 r3 r4 r5 b more _ _ w hL hp hq hr b0 b1 b2 n1 n2 rfl n4 rfl hs ht hn
  · exact nearlaw_o_xx_ok p0 p1 p2 p3 p4 p5 q0 q1 q2 q3 q4 q5 r0 r1 r2 r3 r4 r5 b more _ _ w hL hp hq hr b0 b1 b2 n1 n2 rfl n4 rfl hs ht (by rw [beq_eq_false_iff_ne]; intro h; have := mono2 h; omega)
  · exact nearlaw_o_xo_ok p0 p1 p2 p3 p4 p5 q0 q1 q2 q3 q4 q5 r0 r1 r2 r3 r4 r5 b more _ _ w hL hp hq hr b0 b1 b2 n1 n2 rfl n4 rfl hs ht (by rw [beq_eq_false_iff_ne]; intro h; have := mono2 h; omega)
  · exact nearlaw_o_ox_ok p0 p1 p2 p3 p4 p5 q0 q1 q2 q3 q4 q5 r0 r1 r2 r3 r4 r5 b more _ _ w hL hp hq hr b0 b1 b2 n1 n2 rfl n4 rfl hs ht (by rw [beq_eq_false_iff_ne]; intro h; have := mono2 h; omega)
  · exact nearlaw_o_oo_ok p0 p1 p2 p3 p4 p5 q0 q1 q2 q3 q4 q5 r0 r1 r2 r3 r4 r5 b more _ _ w hL hp hq hr b0 b1 b2 n1 n2 rfl n4 rfl hs ht hn (by rw [beq_eq_false_iff_ne]; intro h; have := mono2 h; omega)
  · by_cases hu : surelyI (sumLo ⟨q0 - r0, q1 - r1, q2 - r2, q3 - r3, q4 - r4, q5 - r5⟩ 6) (sumHi ⟨q0 - r0, q1 - r1, q2 - r2, q3 - r3, q4 - r4, q5 - r5⟩ 6) (-10000 * more) (10000 * more) = 1
    · by_cases hg : b + more ≤ 2400000
      · exact nearlaw_p_xx_v p0 p1 p2 p3 p4 p5 q0 q1 q2 q3 q4 q5 r0 r1 r2 r3 r4 r5 b more w hL hp hq hr b0 b1 b2 n1 n2 (mono1 n1) n4 hu hs ht hg (tri n1 hu)
      · exact nearlaw_p_xx_big p0 p1 p2 p3 p4 p5 q0 q1 q2 q3 q4 q5 r0 r1 r2 r3 r4 r5 b more w hL hp hq hr b0 b1 b2 n1 n2 (mono1 n1) n4 hu hs ht (by omega)
    · exact nearlaw_p_xx_u p0 p1 p2 p3 p4 p5 q0 q1 q2 q3 q4 q5 r0 r1 r2 r3 r4 r5 b more _ w hL hp hq hr b0 b1 b2 n1 n2 (mono1 n1) n4 rfl hs ht (by simpa using hu)
  · by_cases hu : surelyI (sumLo ⟨q0 - r0, q1 - r1, q2 - r2, q3 - r3, q4 - r4, q5 - r5⟩ 6) (sumHi ⟨q0 - r0, q1 - r1, q2 - r2, q3 - r3, q4 - r4, q5 - r5⟩ 6) (-10000 * more) (10000 * more) = 1
    · by_cases hg : b + more ≤ 2400000
      · exact nearlaw_p_xo_v p0 p1 p2 p3 p4 p5 q0 q1 q2 q3 q4 q5 r0 r1 r2 r3 r4 r5 b more w hL hp hq hr b0 b1 b2 n1 n2 (mono1 n1) n4 hu hs ht hg (tri n1 hu)
      · exact nearlaw_p_xo_big p0 p1 p2 p3 p4 p5 q0 q1 q2 q3 q4 q5 r0 r1 r2 r3 r4 r5 b more w hL hp hq hr b0 b1 b2 n1 n2 (mono1 n1) n4 hu hs ht (by omega)
    · exact nearlaw_p_xo_u p0 p1 p2 p3 p4 p5 q0 q1 q2 q3 q4 q5 r0 r1 r2 r3 r4 r5 b more _ w hL hp hq hr b0 b1 b2 n1 n2 (mono1 n1) n4 rfl hs ht (by simpa using hu)
  · by_cases hu : surelyI (sumLo ⟨q0 - r0, q1 - r1, q2 - r2, q3 - r3, q4 - r4, q5 - r5⟩ 6) (sumHi ⟨q0 - r0, q1 - r1, q2 - r2, q3 - r3, q4 - r4, q5 - r5⟩ 6) (-10000 * more) (10000 * more) = 1
    · by_cases hg : b + more ≤ 2400000
      · exact nearlaw_p_ox_v p0 p1 p2 p3 p4 p5 q0 q1 q2 q3 q4 q5 r0 r1 r2 r3 r4 r5 b more w hL hp hq hr b0 b1 b2 n1 n2 (mono1 n1) n4 hu hs ht hg (tri n1 hu)
      · exact nearlaw_p_ox_big p0 p1 p2 p3 p4 p5 q0 q1 q2 q3 q4 q5 r0 r1 r2 r3 r4 r5 b more w hL hp hq hr b0 b1 b2 n1 n2 (mono1 n1) n4 hu hs ht (by omega)
    · exact nearlaw_p_ox_u p0 p1 p2 p3 p4 p5 q0 q1 q2 q3 q4 q5 r0 r1 r2 r3 r4 r5 b more _ w hL hp hq hr b0 b1 b2 n1 n2 (mono1 n1) n4 rfl hs ht (by simpa using hu)
  · by_cases hu : surelyI (sumLo ⟨q0 - r0, q1 - r1, q2 - r2, q3 - r3, q4 - r4, q5 - r5⟩ 6) (sumHi ⟨q0 - r0, q1 - r1, q2 - r2, q3 - r3, q4 - r4, q5 - r5⟩ 6) (-10000 * more) (10000 * more) = 1
    · by_cases hg : b + more ≤ 2400000
      · exact nearlaw_p_oo_v p0 p1 p2 p3 p4 p5 q0 q1 q2 q3 q4 q5 r0 r1 r2 r3 r4 r5 b more w hL hp hq hr b0 b1 b2 n1 n2 (mono1 n1) n4 hu hs ht hn hg (tri n1 hu)
      · exact nearlaw_p_oo_big p0 p1 p2 p3 p4 p5 q0 q1 q2 q3 q4 q5 r0 r1 r2 r3 r4 r5 b more w hL hp hq hr b0 b1 b2 n1 n2 (mono1 n1) n4 hu hs ht hn (by omega)
    · exact nearlaw_p_oo_u p0 p1 p2 p3 p4 p5 q0 q1 q2 q3 q4 q5 r0 r1 r2 r3 r4 r5 b more _ w hL hp hq hr b0 b1 b2 n1 n2 (mono1 n1) n4 rfl hs ht hn (by simpa using hu)
end Go.Proofs.YtmealmnjeoehiaaDoor
