import Derived.Test.YtmealmnjeoehiaaDoorRef2
namespace Go.Proofs.YtmealmnjeoehiaaDoor
open Go.RowKit

set_option maxHeartbeats 2000000 in
theorem rexponents_any (p0 p1 p2 p3 p4 p5 : Int) (w : World) (hv : allIn ⟨p0, p1, p2, p3, p4, p5⟩ 1152 6 = true) :
    Calls Tryd.prog 47 #[.agg #[.int .i64 p0, .int .i64 p1, .int .i64 p2, .int .i64 p3, .int .i64 p4, .int .i64 p5]] w
      fun e w' => e = .returned (.agg #[.int .i64 (sumLo ⟨p0, p1, p2, p3, p4, p5⟩ 6), .int .i64 (sumHi ⟨p0, p1, p2, p3, p4, p5⟩ 6)]) ∧ Gr w w' := by
  have HV := Lib.hid hv; clear hv
  go_enter Tryd.func47, Tryd.ntmps47
  go_wp2_with fail
  go_loopw [4] (fun i wr => ∃ k : Nat, k ≤ 6 ∧ i = .int .i64 k ∧ ExpRel ⟨p0, p1, p2, p3, p4, p5⟩ (((w.alloc (.cells #[.int .i64 p0, .int .i64 p1, .int .i64 p2, .int .i64 p3, .int .i64 p4, .int .i64 p5] 35)).alloc (.cells #[.int .i64 0, .int .i64 0] 23)).alloc (.cells #[.int .i64 0, .int .i64 0] 23)) w.heap.size k wr) (fun i _ => 6 - (intOf i).toNat)
  case atStart => exact ⟨0, by omega, rfl, ⟨Below.refl _ _, by simp, by simp [go_sem, sumLo], by simp [go_sem, sumHi], by simp [go_sem], by simp [go_sem]⟩⟩
  case round =>
    obtain ⟨k, hk, rfl, hR⟩ := hrel
    have hv := HV.out
    by_cases hlt : k < 6
    · have hx : wr.cell? ⟨w.heap.size, k, none⟩ = some (.int .i64 (V6.get ⟨p0, p1, p2, p3, p4, p5⟩ k)) := by
        rw [Below.cell (p := ⟨w.heap.size, k, none⟩) hR.below (by simp)]
        obtain rfl | rfl | rfl | rfl | rfl | rfl : k = 0 ∨ k = 1 ∨ k = 2 ∨ k = 3 ∨ k = 4 ∨ k = 5 := by omega
        all_goals simp [go_sem, V6.get]
      have x1 := (allIn_get hv k hlt).1
      have x2 := (allIn_get hv k hlt).2
      obtain ⟨y1, y2, y3⟩ := log_bd k hlt
      have m1 := mul_bd x1 x2 (show 0 ≤ logLo k by omega) (by omega)
      have m2 := mul_bd x1 x2 (show 0 ≤ logHi k by omega) (by omega)
      obtain ⟨s1, s2⟩ := sum_bd hv k hk
      have HL := Lib.hid (sumLo_mn ⟨p0, p1, p2, p3, p4, p5⟩ k hlt)
      have HH := Lib.hid (sumHi_mx ⟨p0, p1, p2, p3, p4, p5⟩ k hlt)
      clear hv
      generalize V6.get ⟨p0, p1, p2, p3, p4, p5⟩ k = x at hx x1 x2 m1 m2 HL HH
      have w1 : IntKind.i64.wrap (x * logLo k) = x * logLo k := IntWalk.i64_in _ (by omega)
      have w2 : IntKind.i64.wrap (x * logHi k) = x * logHi k := IntWalk.i64_in _ (by omega)
      have hz0 : w.heap.size < wr.heap.size := by have := hR.size; omega
      go_wp2
      go_region_held3 (fun wx => wx.cell? ⟨w.heap.size, k, none⟩ = some (.int .i64 x) ∧ ExpRel ⟨p0, p1, p2, p3, p4, p5⟩ (((w.alloc (.cells #[.int .i64 p0, .int .i64 p1, .int .i64 p2, .int .i64 p3, .int .i64 p4, .int .i64 p5] 35)).alloc (.cells #[.int .i64 0, .int .i64 0] 23)).alloc (.cells #[.int .i64 0, .int .i64 0] 23)) w.heap.size k wx) ((first | exact ⟨hx, hR.drew⟩ | exact ⟨(Below.cell (p := ⟨w.heap.size, k, none⟩) hb hz0).trans hx, hR.drew.call hb⟩))
        (first | (go_at_call 54; refine (rlower_any k hlt _).mono ?_; rintro e w' ⟨rfl, hb⟩))
      have hx2 := (Below.cell (p := ⟨w.heap.size, k, none⟩) hb hz0).trans hx
      have hR2 := hR.drew.call hb
      have hz2 : w.heap.size < w'.heap.size := by have := hR2.size; omega
      have HR1 := Lib.hid hR
      clear hx hb hz0 hR
      go_wp2
      go_region_held3 (fun wx => wx.cell? ⟨w.heap.size, k, none⟩ = some (.int .i64 x) ∧ ExpRel ⟨p0, p1, p2, p3, p4, p5⟩ (((w.alloc (.cells #[.int .i64 p0, .int .i64 p1, .int .i64 p2, .int .i64 p3, .int .i64 p4, .int .i64 p5] 35)).alloc (.cells #[.int .i64 0, .int .i64 0] 23)).alloc (.cells #[.int .i64 0, .int .i64 0] 23)) w.heap.size k wx) ((first | exact ⟨hx2, hR2.drew⟩ | exact ⟨(Below.cell (p := ⟨w.heap.size, k, none⟩) hb hz2).trans hx2, hR2.drew.call hb⟩))
        (first | (go_at_call 55; refine (rupper_any k hlt _).mono ?_; rintro e w' ⟨rfl, hb⟩))
      have hR3 := hR2.drew.call hb
      obtain ⟨hbe, hsz, clo, chi, flo, fhi⟩ := hR3
      clear hx2 hb hz2 hR2
      generalize logLo k = y at *
      generalize logHi k = z at *
      generalize sumLo ⟨p0, p1, p2, p3, p4, p5⟩ k = p at *
      generalize sumHi ⟨p0, p1, p2, p3, p4, p5⟩ k = q at *
      have hm1 : (if x * z < x * y then x * z else x * y) = mn (x * y) (x * z) := rfl
      have hm2 : (if x * y < x * z then x * z else x * y) = mx (x * y) (x * z) := rfl
      have e1 := mn_facts (x * y) (x * z)
      have e2 := mx_facts (x * y) (x * z)
      have f1 : -4608000000000 ≤ mn (x * y) (x * z) := by omega
      have f2 : mn (x * y) (x * z) ≤ 4608000000000 := by omega
      have f3 : -4608000000000 ≤ mx (x * y) (x * z) := by omega
      have f4 : mx (x * y) (x * z) ≤ 4608000000000 := by omega
      clear e1 e2
      go_wp2
      go_roundw
      case rel =>
        refine ⟨k + 1, by omega, by go_num, ⟨?_, by simp; omega, ?_, ?_, ?_, ?_⟩⟩
        · exact (by repeat (first | assumption | refine Below.drew ?_ | refine Below.setCell ?_ (by (try simp); (try omega)) _ | refine Below.alloc ?_ (by (try simp); (try omega)) _))
        · rw [HL.out]; simp [go_sem, *]
        · rw [HH.out]; simp [go_sem, *]
        · simp [go_sem, *]
        · simp [go_sem, *]
      case measure => simp [intOf]; omega
    · obtain rfl : k = 6 := by omega
      obtain ⟨hbe, hsz, clo, chi, flo, fhi⟩ := hR
      have hc : ∀ b o, b < w.heap.size + 2 → wr.cell? ⟨b, o, none⟩ = _ := fun b o hb => Below.cell (p := ⟨b, o, none⟩) hbe hb
      have hf : ∀ b o, b < w.heap.size + 2 → wr.frozen? ⟨b, o, none⟩ = _ := fun b o hb => Below.frozen (p := ⟨b, o, none⟩) hbe hb
      have hz0 : w.heap.size < wr.heap.size := by omega
      have hz1 : w.heap.size + 1 < wr.heap.size := by omega
      have hw : Gr w wr := Gr.below (Gr.alloc (Gr.alloc (Gr.alloc (Gr.refl _) _) _) _) hbe (by omega)
      go_wp2
      exact bodyPost_ret (v := .agg #[.int .i64 (sumLo ⟨p0, p1, p2, p3, p4, p5⟩ 6), .int .i64 (sumHi ⟨p0, p1, p2, p3, p4, p5⟩ 6)]) (by simp [results, Tryd.results47, go_sem, *]) rfl ⟨rfl, (by repeat (first | exact Gr.refl _ | refine Gr.alloc ?_ _ | refine Gr.drew ?_ | refine Gr.trans ?_ (by assumption) | refine Gr.setCell ?_ (by (try simp); (try omega)) _))⟩
end Go.Proofs.YtmealmnjeoehiaaDoor
