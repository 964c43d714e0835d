import Derived.Test.YtmealmnjeoehiaaDoorRef1
import Derived.Deep.RegionHeld3
namespace Go.Proofs.YtmealmnjeoehiaaDoor
open Go.RowKit

theorem rlower0 (w : World) : Calls Tryd.prog 54 #[.int .i64 0] w fun e w' => e = .returned (.int .i64 1000000000) ∧ Gr w w' := by
  go_enter Tryd.func54, Tryd.ntmps54
  go_wp2
  go_ret
  exact ⟨rfl, (by repeat (first | exact Gr.refl _ | refine Gr.alloc ?_ _ | refine Gr.drew ?_ | refine Gr.trans ?_ (by assumption) | refine Gr.setCell ?_ (by (try simp); (try omega)) _))⟩

theorem rlower1 (w : World) : Calls Tryd.prog 54 #[.int .i64 1] w fun e w' => e = .returned (.int .i64 1584962500) ∧ Gr w w' := by
  go_enter Tryd.func54, Tryd.ntmps54
  go_wp2
  go_ret
  exact ⟨rfl, (by repeat (first | exact Gr.refl _ | refine Gr.alloc ?_ _ | refine Gr.drew ?_ | refine Gr.trans ?_ (by assumption) | refine Gr.setCell ?_ (by (try simp); (try omega)) _))⟩

theorem rlower2 (w : World) : Calls Tryd.prog 54 #[.int .i64 2] w fun e w' => e = .returned (.int .i64 2321928094) ∧ Gr w w' := by
  go_enter Tryd.func54, Tryd.ntmps54
  go_wp2
  go_ret
  exact ⟨rfl, (by repeat (first | exact Gr.refl _ | refine Gr.alloc ?_ _ | refine Gr.drew ?_ | refine Gr.trans ?_ (by assumption) | refine Gr.setCell ?_ (by (try simp); (try omega)) _))⟩

theorem rlower3 (w : World) : Calls Tryd.prog 54 #[.int .i64 3] w fun e w' => e = .returned (.int .i64 2807354922) ∧ Gr w w' := by
  go_enter Tryd.func54, Tryd.ntmps54
  go_wp2
  go_ret
  exact ⟨rfl, (by repeat (first | exact Gr.refl _ | refine Gr.alloc ?_ _ | refine Gr.drew ?_ | refine Gr.trans ?_ (by assumption) | refine Gr.setCell ?_ (by (try simp); (try omega)) _))⟩

theorem rlower4 (w : World) : Calls Tryd.prog 54 #[.int .i64 4] w fun e w' => e = .returned (.int .i64 3459431618) ∧ Gr w w' := by
  go_enter Tryd.func54, Tryd.ntmps54
  go_wp2
  go_ret
  exact ⟨rfl, (by repeat (first | exact Gr.refl _ | refine Gr.alloc ?_ _ | refine Gr.drew ?_ | refine Gr.trans ?_ (by assumption) | refine Gr.setCell ?_ (by (try simp); (try omega)) _))⟩

theorem rlower5 (w : World) : Calls Tryd.prog 54 #[.int .i64 5] w fun e w' => e = .returned (.int .i64 3700439718) ∧ Gr w w' := by
  go_enter Tryd.func54, Tryd.ntmps54
  go_wp2
  go_ret
  exact ⟨rfl, (by repeat (first | exact Gr.refl _ | refine Gr.alloc ?_ _ | refine Gr.drew ?_ | refine Gr.trans ?_ (by assumption) | refine Gr.setCell ?_ (by (try simp); (try omega)) _))⟩

theorem rupper0 (w : World) : Calls Tryd.prog 55 #[.int .i64 0] w fun e w' => e = .returned (.int .i64 1000000000) ∧ Gr w w' := by
  go_enter Tryd.func55, Tryd.ntmps55
  go_wp2_with (go_at_call 54; with_reducible refine (rlower0 _).mono ?_; rintro e w' ⟨rfl, hb⟩; have hz := hb.le; obtain ⟨hc, hf⟩ := hb.cells; (try simp only [World.size_alloc] at hc hf hz); (try simp only [World.size_setCell] at hc hf hz); (try simp only [World.size_drew] at hc hf hz))
  go_ret
  exact ⟨rfl, (by repeat (first | exact Gr.refl _ | refine Gr.alloc ?_ _ | refine Gr.drew ?_ | refine Gr.trans ?_ (by assumption) | refine Gr.setCell ?_ (by (try simp); (try omega)) _))⟩

theorem rupper1 (w : World) : Calls Tryd.prog 55 #[.int .i64 1] w fun e w' => e = .returned (.int .i64 1584962501) ∧ Gr w w' := by
  go_enter Tryd.func55, Tryd.ntmps55
  go_wp2_with (go_at_call 54; with_reducible refine (rlower1 _).mono ?_; rintro e w' ⟨rfl, hb⟩; have hz := hb.le; obtain ⟨hc, hf⟩ := hb.cells; (try simp only [World.size_alloc] at hc hf hz); (try simp only [World.size_setCell] at hc hf hz); (try simp only [World.size_drew] at hc hf hz))
  go_ret
  exact ⟨rfl, (by repeat (first | exact Gr.refl _ | refine Gr.alloc ?_ _ | refine Gr.drew ?_ | refine Gr.trans ?_ (by assumption) | refine Gr.setCell ?_ (by (try simp); (try omega)) _))⟩

theorem rupper2 (w : World) : Calls Tryd.prog 55 #[.int .i64 2] w fun e w' => e = .returned (.int .i64 2321928095) ∧ Gr w w' := by
  go_enter Tryd.func55, Tryd.ntmps55
  go_wp2_with (go_at_call 54; with_reducible refine (rlower2 _).mono ?_; rintro e w' ⟨rfl, hb⟩; have hz := hb.le; obtain ⟨hc, hf⟩ := hb.cells; (try simp only [World.size_alloc] at hc hf hz); (try simp only [World.size_setCell] at hc hf hz); (try simp only [World.size_drew] at hc hf hz))
  go_ret
  exact ⟨rfl, (by repeat (first | exact Gr.refl _ | refine Gr.alloc ?_ _ | refine Gr.drew ?_ | refine Gr.trans ?_ (by assumption) | refine Gr.setCell ?_ (by (try simp); (try omega)) _))⟩

theorem rupper3 (w : World) : Calls Tryd.prog 55 #[.int .i64 3] w fun e w' => e = .returned (.int .i64 2807354923) ∧ Gr w w' := by
  go_enter Tryd.func55, Tryd.ntmps55
  go_wp2_with (go_at_call 54; with_reducible refine (rlower3 _).mono ?_; rintro e w' ⟨rfl, hb⟩; have hz := hb.le; obtain ⟨hc, hf⟩ := hb.cells; (try simp only [World.size_alloc] at hc hf hz); (try simp only [World.size_setCell] at hc hf hz); (try simp only [World.size_drew] at hc hf hz))
  go_ret
  exact ⟨rfl, (by repeat (first | exact Gr.refl _ | refine Gr.alloc ?_ _ | refine Gr.drew ?_ | refine Gr.trans ?_ (by assumption) | refine Gr.setCell ?_ (by (try simp); (try omega)) _))⟩

theorem rupper4 (w : World) : Calls Tryd.prog 55 #[.int .i64 4] w fun e w' => e = .returned (.int .i64 3459431619) ∧ Gr w w' := by
  go_enter Tryd.func55, Tryd.ntmps55
  go_wp2_with (go_at_call 54; with_reducible refine (rlower4 _).mono ?_; rintro e w' ⟨rfl, hb⟩; have hz := hb.le; obtain ⟨hc, hf⟩ := hb.cells; (try simp only [World.size_alloc] at hc hf hz); (try simp only [World.size_setCell] at hc hf hz); (try simp only [World.size_drew] at hc hf hz))
  go_ret
  exact ⟨rfl, (by repeat (first | exact Gr.refl _ | refine Gr.alloc ?_ _ | refine Gr.drew ?_ | refine Gr.trans ?_ (by assumption) | refine Gr.setCell ?_ (by (try simp); (try omega)) _))⟩

theorem rupper5 (w : World) : Calls Tryd.prog 55 #[.int .i64 5] w fun e w' => e = .returned (.int .i64 3700439719) ∧ Gr w w' := by
  go_enter Tryd.func55, Tryd.ntmps55
  go_wp2_with (go_at_call 54; with_reducible refine (rlower5 _).mono ?_; rintro e w' ⟨rfl, hb⟩; have hz := hb.le; obtain ⟨hc, hf⟩ := hb.cells; (try simp only [World.size_alloc] at hc hf hz); (try simp only [World.size_setCell] at hc hf hz); (try simp only [World.size_drew] at hc hf hz))
  go_ret
  exact ⟨rfl, (by repeat (first | exact Gr.refl _ | refine Gr.alloc ?_ _ | refine Gr.drew ?_ | refine Gr.trans ?_ (by assumption) | refine Gr.setCell ?_ (by (try simp); (try omega)) _))⟩

theorem rlower_any (k : Nat) (hk : k < 6) (w : World) : Calls Tryd.prog 54 #[.int .i64 (k : Int)] w fun e w' => e = .returned (.int .i64 (logLo k)) ∧ Gr w w' := by
  obtain rfl | rfl | rfl | rfl | rfl | rfl : k = 0 ∨ k = 1 ∨ k = 2 ∨ k = 3 ∨ k = 4 ∨ k = 5 := by omega
  · exact rlower0 w
  · exact rlower1 w
  · exact rlower2 w
  · exact rlower3 w
  · exact rlower4 w
  · exact rlower5 w
theorem rupper_any (k : Nat) (hk : k < 6) (w : World) : Calls Tryd.prog 55 #[.int .i64 (k : Int)] w fun e w' => e = .returned (.int .i64 (logHi k)) ∧ Gr w w' := by
  obtain rfl | rfl | rfl | rfl | rfl | rfl : k = 0 ∨ k = 1 ∨ k = 2 ∨ k = 3 ∨ k = 4 ∨ k = 5 := by omega
  · exact rupper0 w
  · exact rupper1 w
  · exact rupper2 w
  · exact rupper3 w
  · exact rupper4 w
  · exact rupper5 w
theorem ExpRel.call {v : V6} {W1 : World} {B k : Nat} {wr w' : World} (h : ExpRel v W1 B k wr) (g : Gr wr w') : ExpRel v W1 B k w' := by
  have hs := h.size
  have hle := g.le
  have hc : ∀ o, w'.cell? ⟨B + 1 + 1, o, none⟩ = wr.cell? ⟨B + 1 + 1, o, none⟩ := fun o => Below.cell (p := ⟨B + 1 + 1, o, none⟩) g hs
  have hf : ∀ o, w'.frozen? ⟨B + 1 + 1, o, none⟩ = wr.frozen? ⟨B + 1 + 1, o, none⟩ := fun o => Below.frozen (p := ⟨B + 1 + 1, o, none⟩) g hs
  exact ⟨h.below.trans (Below.mono g (by omega)), by omega, (hc 0).trans h.lo, (hc 1).trans h.hi, (hf 0).trans h.flo, (hf 1).trans h.fhi⟩
theorem ExpRel.drew {v : V6} {W1 : World} {B k : Nat} {wr : World} (h : ExpRel v W1 B k wr) : ExpRel v W1 B k wr.drew := ⟨h.below.drew, h.size, h.lo, h.hi, h.flo, h.fhi⟩
theorem sumLo_mn (v : V6) (k : Nat) (hk : k < 6) : sumLo v (k + 1) = sumLo v k + mn (v.get k * logLo k) (v.get k * logHi k) := by
  rw [sumLo_succ]
  obtain ⟨a, b, c⟩ := loE_le k hk (v.get k)
  unfold mn
  split <;> omega
theorem sumHi_mx (v : V6) (k : Nat) (hk : k < 6) : sumHi v (k + 1) = sumHi v k + mx (v.get k * logLo k) (v.get k * logHi k) := by
  rw [sumHi_succ]
  obtain ⟨a, b, c⟩ := hiE_ge k hk (v.get k)
  unfold mx
  split <;> omega
end Go.Proofs.YtmealmnjeoehiaaDoor
