/-
  package voice: Way: the next note.
  package voice: Way refuses what is not valid.
  package voice: Way at valid inputs.
-/
import Derived.Test.YtiogfohjepobkaaDoorWayD
import Derived.Test.YtiogfohjepobkaaDoorHeld
import Derived.Test.YtiogfohjepobkaaDoorWay1
import Derived.Laws.EntriesVeiled
import Derived.Deep.AppendLies
namespace Go.Proofs.YtiogfohjepobkaaDoor
open Go.RowKit

/-- Note k is one step nearer than note a, and is reached from it. -/
def nextB (J : Nat → Nat → Bool) (far : Nat → Int) (a k : Nat) : Bool := decide (far k = far a - 1) && J a k
/-- The boxes that the closure has captured. -/
structure Cap (S : Value) (n F B1 B2 B3 a : Nat) (far : Nat → Int) (W : World) : Prop where
  l1 : B1 < W.heap.size
  l2 : B2 < W.heap.size
  l3 : B3 < W.heap.size
  c1 : W.cell? ⟨B1, 0, none⟩ = some (.slice (some ⟨F, 0, none⟩) n n)
  c2 : W.cell? ⟨B2, 0, none⟩ = some (.int .i64 (a : Int))
  c3 : W.cell? ⟨B3, 0, none⟩ = some (.func (.func 42) #[S] #[])
  row : IntRow W F n far
theorem Cap.keep {S : Value} {n F B1 B2 B3 a : Nat} {far : Nat → Int} {W W' : World} (h : Cap S n F B1 B2 B3 a far W) (g : Gr W W') : Cap S n F B1 B2 B3 a far W' :=
  ⟨Nat.lt_of_lt_of_le h.l1 g.le, Nat.lt_of_lt_of_le h.l2 g.le, Nat.lt_of_lt_of_le h.l3 g.le, (Below.cell (p := ⟨B1, 0, none⟩) g h.l1).trans h.c1, (Below.cell (p := ⟨B2, 0, none⟩) g h.l2).trans h.c2, (Below.cell (p := ⟨B3, 0, none⟩) g h.l3).trans h.c3, h.row.keep g⟩

set_option maxRecDepth 100000 in
set_option maxHeartbeats 8000000 in
theorem next_any (S : Value) (J : Nat → Nat → Bool) (n F B1 B2 B3 a k : Nat) (far : Nat → Int) (w : World) (hw : Cap S n F B1 B2 B3 a far w) (ha : a < n) (hk : k < n) (hfa : -1 ≤ far a) (hfb : far a ≤ 200)
    (hJ : ∀ W, Gr w W → Calls Tryd.prog 42 #[S, .int .i64 (a : Int), .int .i64 (k : Int)] W fun e w' => e = .returned (.bool (J a k)) ∧ Gr W w') :
    Calls Tryd.prog 46 #[.int .i64 (k : Int), .pointer (some ⟨B1, 0, none⟩), .pointer (some ⟨B2, 0, none⟩), .pointer (some ⟨B3, 0, none⟩)] w fun e w' => e = .returned (.bool (nextB J far a k)) ∧ Gr w w' := by
  have HJ := Lib.hid hJ
  obtain ⟨l1, l2, l3, c1, c2, c3, hr⟩ := hw
  have ca := hr.cell a ha; have ck := hr.cell k hk
  have hlF := hr.lt
  have hwr : IntKind.i64.wrap (far a - 1) = far a - 1 := IntWalk.i64_in _ ⟨by omega, by omega⟩
  clear hJ hr
  obtain ⟨wo, rfl⟩ : ∃ wo : World, wo = w := ⟨_, rfl⟩
  by_cases hq : far k = far a - 1
  · have hqb : (far k == far a - 1) = true := by simp [hq]
    have HQ := Lib.hid hq
    clear hq
    rcases tfq (J a k) with hj | hj
    · have HJB := Lib.hid hj
      simp only [hj] at HJ
      clear hj
      go_enter Tryd.func46, Tryd.ntmps46
      go_upto_region 1 with fail
      refine wp_region_held_drew (S := fun wx => (∀ b o, (⟨min (b + 1) wo.heap.size, 0, none⟩ : Addr) = ⟨b + 1, 0, none⟩ → wx.cell? ⟨b, o, none⟩ = wo.cell? ⟨b, o, none⟩) ∧ Gr wo wx) (by kernel_rfl) (held_drew wo) (fun hHeld => ?_)
      first | (refine take_at (i := 0) (oi := _) (d := some 6) (v := undef) rfl rfl (by kernel_rfl) (by kernel_rfl) (by kernel_rfl) (fun _ _ _ h => h) (Or.inr ⟨by rfl, rfl⟩) hHeld ?_) | (refine take_at (i := 0) (oi := _) (d := some 6) (v := ?_) rfl rfl (by kernel_rfl) (by kernel_rfl) (by kernel_rfl) (fun _ _ _ h => h) (Or.inl ⟨by rfl, ?_⟩) hHeld ?_; rotate_left; next => (intro w hSw; (try dsimp only at hSw); go_simp; try with_reducible rfl))
      try simp only [Act.put, List.setIfInBounds_toArray, List.set_cons_zero, List.set_cons_succ]
      first | (refine take_at (i := 1) (oi := _) (d := some 7) (v := undef) rfl rfl (by kernel_rfl) (by kernel_rfl) (by kernel_rfl) (fun _ _ _ h => h) (Or.inr ⟨by rfl, rfl⟩) hHeld ?_) | (refine take_at (i := 1) (oi := _) (d := some 7) (v := ?_) rfl rfl (by kernel_rfl) (by kernel_rfl) (by kernel_rfl) (fun _ _ _ h => h) (Or.inl ⟨by rfl, ?_⟩) hHeld ?_; rotate_left; next => (intro w hSw; (try dsimp only at hSw); go_simp; try with_reducible rfl))
      try simp only [Act.put, List.setIfInBounds_toArray, List.set_cons_zero, List.set_cons_succ]
      first | (refine take_at (i := 2) (oi := _) (d := some 8) (v := undef) rfl rfl (by kernel_rfl) (by kernel_rfl) (by kernel_rfl) (fun _ _ _ h => h) (Or.inr ⟨by rfl, rfl⟩) hHeld ?_) | (refine take_at (i := 2) (oi := _) (d := some 8) (v := ?_) rfl rfl (by kernel_rfl) (by kernel_rfl) (by kernel_rfl) (fun _ _ _ h => h) (Or.inl ⟨by rfl, ?_⟩) hHeld ?_; rotate_left; next => (intro w hSw; (try dsimp only at hSw); go_simp; try with_reducible rfl))
      try simp only [Act.put, List.setIfInBounds_toArray, List.set_cons_zero, List.set_cons_succ]
      first | (refine take_at (i := 3) (oi := _) (d := some 9) (v := undef) rfl rfl (by kernel_rfl) (by kernel_rfl) (by kernel_rfl) (fun _ _ _ h => h) (Or.inr ⟨by rfl, rfl⟩) hHeld ?_) | (refine take_at (i := 3) (oi := _) (d := some 9) (v := ?_) rfl rfl (by kernel_rfl) (by kernel_rfl) (by kernel_rfl) (fun _ _ _ h => h) (Or.inl ⟨by rfl, ?_⟩) hHeld ?_; rotate_left; next => (intro w hSw; (try dsimp only at hSw); go_simp; try with_reducible rfl))
      try simp only [Act.put, List.setIfInBounds_toArray, List.set_cons_zero, List.set_cons_succ]
      first | (refine take_at (i := 4) (oi := _) (d := some 10) (v := undef) rfl rfl (by kernel_rfl) (by kernel_rfl) (by kernel_rfl) (fun _ _ _ h => h) (Or.inr ⟨by rfl, rfl⟩) hHeld ?_) | (refine take_at (i := 4) (oi := _) (d := some 10) (v := ?_) rfl rfl (by kernel_rfl) (by kernel_rfl) (by kernel_rfl) (fun _ _ _ h => h) (Or.inl ⟨by rfl, ?_⟩) hHeld ?_; rotate_left; next => (intro w hSw; (try dsimp only at hSw); go_simp; try with_reducible rfl))
      try simp only [Act.put, List.setIfInBounds_toArray, List.set_cons_zero, List.set_cons_succ]
      first | (refine take_at (i := 5) (oi := _) (d := some 11) (v := undef) rfl rfl (by kernel_rfl) (by kernel_rfl) (by kernel_rfl) (fun _ _ _ h => h) (Or.inr ⟨by rfl, rfl⟩) hHeld ?_) | (refine take_at (i := 5) (oi := _) (d := some 11) (v := ?_) rfl rfl (by kernel_rfl) (by kernel_rfl) (by kernel_rfl) (fun _ _ _ h => h) (Or.inl ⟨by rfl, ?_⟩) hHeld ?_; rotate_left; next => (intro w hSw; (try dsimp only at hSw); go_simp; try with_reducible rfl))
      try simp only [Act.put, List.setIfInBounds_toArray, List.set_cons_zero, List.set_cons_succ]
      first | (refine take_at (i := 6) (oi := _) (d := some 12) (v := undef) rfl rfl (by kernel_rfl) (by kernel_rfl) (by kernel_rfl) (fun _ _ _ h => h) (Or.inr ⟨by rfl, rfl⟩) hHeld ?_) | (refine take_at (i := 6) (oi := _) (d := some 12) (v := ?_) rfl rfl (by kernel_rfl) (by kernel_rfl) (by kernel_rfl) (fun _ _ _ h => h) (Or.inl ⟨by rfl, ?_⟩) hHeld ?_; rotate_left; next => (intro w hSw; (try dsimp only at hSw); go_simp; try with_reducible rfl))
      try simp only [Act.put, List.setIfInBounds_toArray, List.set_cons_zero, List.set_cons_succ]
      first | (refine take_at (i := 7) (oi := _) (d := some 13) (v := undef) rfl rfl (by kernel_rfl) (by kernel_rfl) (by kernel_rfl) (fun _ _ _ h => h) (Or.inr ⟨by rfl, rfl⟩) hHeld ?_) | (refine take_at (i := 7) (oi := _) (d := some 13) (v := ?_) rfl rfl (by kernel_rfl) (by kernel_rfl) (by kernel_rfl) (fun _ _ _ h => h) (Or.inl ⟨by rfl, ?_⟩) hHeld ?_; rotate_left; next => (intro w hSw; (try dsimp only at hSw); go_simp; try with_reducible rfl))
      try simp only [Act.put, List.setIfInBounds_toArray, List.set_cons_zero, List.set_cons_succ]
      first | (refine take_at (i := 8) (oi := _) (d := some 14) (v := undef) rfl rfl (by kernel_rfl) (by kernel_rfl) (by kernel_rfl) (fun _ _ _ h => h) (Or.inr ⟨by rfl, rfl⟩) hHeld ?_) | (refine take_at (i := 8) (oi := _) (d := some 14) (v := ?_) rfl rfl (by kernel_rfl) (by kernel_rfl) (by kernel_rfl) (fun _ _ _ h => h) (Or.inl ⟨by rfl, ?_⟩) hHeld ?_; rotate_left; next => (intro w hSw; (try dsimp only at hSw); go_simp; try with_reducible rfl))
      try simp only [Act.put, List.setIfInBounds_toArray, List.set_cons_zero, List.set_cons_succ]
      first | (refine take_at (i := 9) (oi := _) (d := some 15) (v := undef) rfl rfl (by kernel_rfl) (by kernel_rfl) (by kernel_rfl) (fun _ _ _ h => h) (Or.inr ⟨by rfl, rfl⟩) hHeld ?_) | (refine take_at (i := 9) (oi := _) (d := some 15) (v := ?_) rfl rfl (by kernel_rfl) (by kernel_rfl) (by kernel_rfl) (fun _ _ _ h => h) (Or.inl ⟨by rfl, ?_⟩) hHeld ?_; rotate_left; next => (intro w hSw; (try dsimp only at hSw); go_simp; try with_reducible rfl))
      try simp only [Act.put, List.setIfInBounds_toArray, List.set_cons_zero, List.set_cons_succ]
      first | (refine take_at (i := 10) (oi := _) (d := some 16) (v := undef) rfl rfl (by kernel_rfl) (by kernel_rfl) (by kernel_rfl) (fun _ _ _ h => h) (Or.inr ⟨by rfl, rfl⟩) hHeld ?_) | (refine take_at (i := 10) (oi := _) (d := some 16) (v := ?_) rfl rfl (by kernel_rfl) (by kernel_rfl) (by kernel_rfl) (fun _ _ _ h => h) (Or.inl ⟨by rfl, ?_⟩) hHeld ?_; rotate_left; next => (intro w hSw; (try dsimp only at hSw); go_simp; try with_reducible rfl))
      try simp only [Act.put, List.setIfInBounds_toArray, List.set_cons_zero, List.set_cons_succ]
      first | (refine take_at (i := 11) (oi := _) (d := some 17) (v := undef) rfl rfl (by kernel_rfl) (by kernel_rfl) (by kernel_rfl) (fun _ _ _ h => h) (Or.inr ⟨by rfl, rfl⟩) hHeld ?_) | (refine take_at (i := 11) (oi := _) (d := some 17) (v := ?_) rfl rfl (by kernel_rfl) (by kernel_rfl) (by kernel_rfl) (fun _ _ _ h => h) (Or.inl ⟨by rfl, ?_⟩) hHeld ?_; rotate_left; next => (intro w hSw; (try dsimp only at hSw); go_simp; try with_reducible rfl))
      try simp only [Act.put, List.setIfInBounds_toArray, List.set_cons_zero, List.set_cons_succ]
      first | (refine take_at (i := 12) (oi := _) (d := some 18) (v := undef) rfl rfl (by kernel_rfl) (by kernel_rfl) (by kernel_rfl) (fun _ _ _ h => h) (Or.inr ⟨by rfl, rfl⟩) hHeld ?_) | (refine take_at (i := 12) (oi := _) (d := some 18) (v := ?_) rfl rfl (by kernel_rfl) (by kernel_rfl) (by kernel_rfl) (fun _ _ _ h => h) (Or.inl ⟨by rfl, ?_⟩) hHeld ?_; rotate_left; next => (intro w hSw; (try dsimp only at hSw); go_simp; try with_reducible rfl))
      try simp only [Act.put, List.setIfInBounds_toArray, List.set_cons_zero, List.set_cons_succ]
      first | (refine take_at (i := 13) (oi := _) (d := some 19) (v := undef) rfl rfl (by kernel_rfl) (by kernel_rfl) (by kernel_rfl) (fun _ _ _ h => h) (Or.inr ⟨by rfl, rfl⟩) hHeld ?_) | (refine take_at (i := 13) (oi := _) (d := some 19) (v := ?_) rfl rfl (by kernel_rfl) (by kernel_rfl) (by kernel_rfl) (fun _ _ _ h => h) (Or.inl ⟨by rfl, ?_⟩) hHeld ?_; rotate_left; next => (intro w hSw; (try dsimp only at hSw); go_simp; try with_reducible rfl))
      try simp only [Act.put, List.setIfInBounds_toArray, List.set_cons_zero, List.set_cons_succ]
      first | (refine take_at (i := 14) (oi := _) (d := some 20) (v := undef) rfl rfl (by kernel_rfl) (by kernel_rfl) (by kernel_rfl) (fun _ _ _ h => h) (Or.inr ⟨by rfl, rfl⟩) hHeld ?_) | (refine wpAnyH_ready (rs := [14]) (by kernel_rfl) (by simp) (AllReadyH.cons (o := _) rfl (fun K hK => ?_) AllReadyH.nil); go_simp; go_at_call 42; refine (HJ.out _ hHeld.2).mono ?_; rintro e w' ⟨rfl, hb⟩; refine hK.out _ _ (held_call hHeld hb) (fun hHeld => ?_); clear hK K hb)
      try simp only [Act.put, List.setIfInBounds_toArray, List.set_cons_zero, List.set_cons_succ]
      first | (refine take_at (i := 15) (oi := _) (d := some 21) (v := undef) rfl rfl (by kernel_rfl) (by kernel_rfl) (by kernel_rfl) (fun _ _ _ h => h) (Or.inr ⟨by rfl, rfl⟩) hHeld ?_) | (refine take_at (i := 15) (oi := _) (d := some 21) (v := ?_) rfl rfl (by kernel_rfl) (by kernel_rfl) (by kernel_rfl) (fun _ _ _ h => h) (Or.inl ⟨by rfl, ?_⟩) hHeld ?_; rotate_left; next => (intro w hSw; (try dsimp only at hSw); go_simp; try with_reducible rfl))
      try simp only [Act.put, List.setIfInBounds_toArray, List.set_cons_zero, List.set_cons_succ]
      first | (refine take_at (i := 16) (oi := _) (d := some 5) (v := undef) rfl rfl (by kernel_rfl) (by kernel_rfl) (by kernel_rfl) (fun _ _ _ h => h) (Or.inr ⟨by rfl, rfl⟩) hHeld ?_) | (refine take_at (i := 16) (oi := _) (d := some 5) (v := ?_) rfl rfl (by kernel_rfl) (by kernel_rfl) (by kernel_rfl) (fun _ _ _ h => h) (Or.inl ⟨by rfl, ?_⟩) hHeld ?_; rotate_left; next => (intro w hSw; (try dsimp only at hSw); go_simp; try with_reducible rfl))
      try simp only [Act.put, List.setIfInBounds_toArray, List.set_cons_zero, List.set_cons_succ]
      refine wpAnyH_done (by kernel_rfl) ?_ _
      go_wp2_with fail
      go_ret
      exact ⟨ret_bool (by unfold nextB; rw [HJB.out, decide_eq_true HQ.out]; rfl), hHeld.2.trans (by repeat (first | with_reducible exact Gr.refl _ | with_reducible refine Gr.alloc ?_ _ | with_reducible refine Gr.drew ?_ | with_reducible refine Gr.trans ?_ (by assumption) | with_reducible refine Gr.setCell ?_ (by (try simp); (try omega)) _))⟩
    · have HJB := Lib.hid hj
      simp only [hj] at HJ
      clear hj
      go_enter Tryd.func46, Tryd.ntmps46
      go_upto_region 1 with fail
      refine wp_region_held_drew (S := fun wx => (∀ b o, (⟨min (b + 1) wo.heap.size, 0, none⟩ : Addr) = ⟨b + 1, 0, none⟩ → wx.cell? ⟨b, o, none⟩ = wo.cell? ⟨b, o, none⟩) ∧ Gr wo wx) (by kernel_rfl) (held_drew wo) (fun hHeld => ?_)
      first | (refine take_at (i := 0) (oi := _) (d := some 6) (v := undef) rfl rfl (by kernel_rfl) (by kernel_rfl) (by kernel_rfl) (fun _ _ _ h => h) (Or.inr ⟨by rfl, rfl⟩) hHeld ?_) | (refine take_at (i := 0) (oi := _) (d := some 6) (v := ?_) rfl rfl (by kernel_rfl) (by kernel_rfl) (by kernel_rfl) (fun _ _ _ h => h) (Or.inl ⟨by rfl, ?_⟩) hHeld ?_; rotate_left; next => (intro w hSw; (try dsimp only at hSw); go_simp; try with_reducible rfl))
      try simp only [Act.put, List.setIfInBounds_toArray, List.set_cons_zero, List.set_cons_succ]
      first | (refine take_at (i := 1) (oi := _) (d := some 7) (v := undef) rfl rfl (by kernel_rfl) (by kernel_rfl) (by kernel_rfl) (fun _ _ _ h => h) (Or.inr ⟨by rfl, rfl⟩) hHeld ?_) | (refine take_at (i := 1) (oi := _) (d := some 7) (v := ?_) rfl rfl (by kernel_rfl) (by kernel_rfl) (by kernel_rfl) (fun _ _ _ h => h) (Or.inl ⟨by rfl, ?_⟩) hHeld ?_; rotate_left; next => (intro w hSw; (try dsimp only at hSw); go_simp; try with_reducible rfl))
      try simp only [Act.put, List.setIfInBounds_toArray, List.set_cons_zero, List.set_cons_succ]
      first | (refine take_at (i := 2) (oi := _) (d := some 8) (v := undef) rfl rfl (by kernel_rfl) (by kernel_rfl) (by kernel_rfl) (fun _ _ _ h => h) (Or.inr ⟨by rfl, rfl⟩) hHeld ?_) | (refine take_at (i := 2) (oi := _) (d := some 8) (v := ?_) rfl rfl (by kernel_rfl) (by kernel_rfl) (by kernel_rfl) (fun _ _ _ h => h) (Or.inl ⟨by rfl, ?_⟩) hHeld ?_; rotate_left; next => (intro w hSw; (try dsimp only at hSw); go_simp; try with_reducible rfl))
      try simp only [Act.put, List.setIfInBounds_toArray, List.set_cons_zero, List.set_cons_succ]
      first | (refine take_at (i := 3) (oi := _) (d := some 9) (v := undef) rfl rfl (by kernel_rfl) (by kernel_rfl) (by kernel_rfl) (fun _ _ _ h => h) (Or.inr ⟨by rfl, rfl⟩) hHeld ?_) | (refine take_at (i := 3) (oi := _) (d := some 9) (v := ?_) rfl rfl (by kernel_rfl) (by kernel_rfl) (by kernel_rfl) (fun _ _ _ h => h) (Or.inl ⟨by rfl, ?_⟩) hHeld ?_; rotate_left; next => (intro w hSw; (try dsimp only at hSw); go_simp; try with_reducible rfl))
      try simp only [Act.put, List.setIfInBounds_toArray, List.set_cons_zero, List.set_cons_succ]
      first | (refine take_at (i := 4) (oi := _) (d := some 10) (v := undef) rfl rfl (by kernel_rfl) (by kernel_rfl) (by kernel_rfl) (fun _ _ _ h => h) (Or.inr ⟨by rfl, rfl⟩) hHeld ?_) | (refine take_at (i := 4) (oi := _) (d := some 10) (v := ?_) rfl rfl (by kernel_rfl) (by kernel_rfl) (by kernel_rfl) (fun _ _ _ h => h) (Or.inl ⟨by rfl, ?_⟩) hHeld ?_; rotate_left; next => (intro w hSw; (try dsimp only at hSw); go_simp; try with_reducible rfl))
      try simp only [Act.put, List.setIfInBounds_toArray, List.set_cons_zero, List.set_cons_succ]
      first | (refine take_at (i := 5) (oi := _) (d := some 11) (v := undef) rfl rfl (by kernel_rfl) (by kernel_rfl) (by kernel_rfl) (fun _ _ _ h => h) (Or.inr ⟨by rfl, rfl⟩) hHeld ?_) | (refine take_at (i := 5) (oi := _) (d := some 11) (v := ?_) rfl rfl (by kernel_rfl) (by kernel_rfl) (by kernel_rfl) (fun _ _ _ h => h) (Or.inl ⟨by rfl, ?_⟩) hHeld ?_; rotate_left; next => (intro w hSw; (try dsimp only at hSw); go_simp; try with_reducible rfl))
      try simp only [Act.put, List.setIfInBounds_toArray, List.set_cons_zero, List.set_cons_succ]
      first | (refine take_at (i := 6) (oi := _) (d := some 12) (v := undef) rfl rfl (by kernel_rfl) (by kernel_rfl) (by kernel_rfl) (fun _ _ _ h => h) (Or.inr ⟨by rfl, rfl⟩) hHeld ?_) | (refine take_at (i := 6) (oi := _) (d := some 12) (v := ?_) rfl rfl (by kernel_rfl) (by kernel_rfl) (by kernel_rfl) (fun _ _ _ h => h) (Or.inl ⟨by rfl, ?_⟩) hHeld ?_; rotate_left; next => (intro w hSw; (try dsimp only at hSw); go_simp; try with_reducible rfl))
      try simp only [Act.put, List.setIfInBounds_toArray, List.set_cons_zero, List.set_cons_succ]
      first | (refine take_at (i := 7) (oi := _) (d := some 13) (v := undef) rfl rfl (by kernel_rfl) (by kernel_rfl) (by kernel_rfl) (fun _ _ _ h => h) (Or.inr ⟨by rfl, rfl⟩) hHeld ?_) | (refine take_at (i := 7) (oi := _) (d := some 13) (v := ?_) rfl rfl (by kernel_rfl) (by kernel_rfl) (by kernel_rfl) (fun _ _ _ h => h) (Or.inl ⟨by rfl, ?_⟩) hHeld ?_; rotate_left; next => (intro w hSw; (try dsimp only at hSw); go_simp; try with_reducible rfl))
      try simp only [Act.put, List.setIfInBounds_toArray, List.set_cons_zero, List.set_cons_succ]
      first | (refine take_at (i := 8) (oi := _) (d := some 14) (v := undef) rfl rfl (by kernel_rfl) (by kernel_rfl) (by kernel_rfl) (fun _ _ _ h => h) (Or.inr ⟨by rfl, rfl⟩) hHeld ?_) | (refine take_at (i := 8) (oi := _) (d := some 14) (v := ?_) rfl rfl (by kernel_rfl) (by kernel_rfl) (by kernel_rfl) (fun _ _ _ h => h) (Or.inl ⟨by rfl, ?_⟩) hHeld ?_; rotate_left; next => (intro w hSw; (try dsimp only at hSw); go_simp; try with_reducible rfl))
      try simp only [Act.put, List.setIfInBounds_toArray, List.set_cons_zero, List.set_cons_succ]
      first | (refine take_at (i := 9) (oi := _) (d := some 15) (v := undef) rfl rfl (by kernel_rfl) (by kernel_rfl) (by kernel_rfl) (fun _ _ _ h => h) (Or.inr ⟨by rfl, rfl⟩) hHeld ?_) | (refine take_at (i := 9) (oi := _) (d := some 15) (v := ?_) rfl rfl (by kernel_rfl) (by kernel_rfl) (by kernel_rfl) (fun _ _ _ h => h) (Or.inl ⟨by rfl, ?_⟩) hHeld ?_; rotate_left; next => (intro w hSw; (try dsimp only at hSw); go_simp; try with_reducible rfl))
      try simp only [Act.put, List.setIfInBounds_toArray, List.set_cons_zero, List.set_cons_succ]
      first | (refine take_at (i := 10) (oi := _) (d := some 16) (v := undef) rfl rfl (by kernel_rfl) (by kernel_rfl) (by kernel_rfl) (fun _ _ _ h => h) (Or.inr ⟨by rfl, rfl⟩) hHeld ?_) | (refine take_at (i := 10) (oi := _) (d := some 16) (v := ?_) rfl rfl (by kernel_rfl) (by kernel_rfl) (by kernel_rfl) (fun _ _ _ h => h) (Or.inl ⟨by rfl, ?_⟩) hHeld ?_; rotate_left; next => (intro w hSw; (try dsimp only at hSw); go_simp; try with_reducible rfl))
      try simp only [Act.put, List.setIfInBounds_toArray, List.set_cons_zero, List.set_cons_succ]
      first | (refine take_at (i := 11) (oi := _) (d := some 17) (v := undef) rfl rfl (by kernel_rfl) (by kernel_rfl) (by kernel_rfl) (fun _ _ _ h => h) (Or.inr ⟨by rfl, rfl⟩) hHeld ?_) | (refine take_at (i := 11) (oi := _) (d := some 17) (v := ?_) rfl rfl (by kernel_rfl) (by kernel_rfl) (by kernel_rfl) (fun _ _ _ h => h) (Or.inl ⟨by rfl, ?_⟩) hHeld ?_; rotate_left; next => (intro w hSw; (try dsimp only at hSw); go_simp; try with_reducible rfl))
      try simp only [Act.put, List.setIfInBounds_toArray, List.set_cons_zero, List.set_cons_succ]
      first | (refine take_at (i := 12) (oi := _) (d := some 18) (v := undef) rfl rfl (by kernel_rfl) (by kernel_rfl) (by kernel_rfl) (fun _ _ _ h => h) (Or.inr ⟨by rfl, rfl⟩) hHeld ?_) | (refine take_at (i := 12) (oi := _) (d := some 18) (v := ?_) rfl rfl (by kernel_rfl) (by kernel_rfl) (by kernel_rfl) (fun _ _ _ h => h) (Or.inl ⟨by rfl, ?_⟩) hHeld ?_; rotate_left; next => (intro w hSw; (try dsimp only at hSw); go_simp; try with_reducible rfl))
      try simp only [Act.put, List.setIfInBounds_toArray, List.set_cons_zero, List.set_cons_succ]
      first | (refine take_at (i := 13) (oi := _) (d := some 19) (v := undef) rfl rfl (by kernel_rfl) (by kernel_rfl) (by kernel_rfl) (fun _ _ _ h => h) (Or.inr ⟨by rfl, rfl⟩) hHeld ?_) | (refine take_at (i := 13) (oi := _) (d := some 19) (v := ?_) rfl rfl (by kernel_rfl) (by kernel_rfl) (by kernel_rfl) (fun _ _ _ h => h) (Or.inl ⟨by rfl, ?_⟩) hHeld ?_; rotate_left; next => (intro w hSw; (try dsimp only at hSw); go_simp; try with_reducible rfl))
      try simp only [Act.put, List.setIfInBounds_toArray, List.set_cons_zero, List.set_cons_succ]
      first | (refine take_at (i := 14) (oi := _) (d := some 20) (v := undef) rfl rfl (by kernel_rfl) (by kernel_rfl) (by kernel_rfl) (fun _ _ _ h => h) (Or.inr ⟨by rfl, rfl⟩) hHeld ?_) | (refine wpAnyH_ready (rs := [14]) (by kernel_rfl) (by simp) (AllReadyH.cons (o := _) rfl (fun K hK => ?_) AllReadyH.nil); go_simp; go_at_call 42; refine (HJ.out _ hHeld.2).mono ?_; rintro e w' ⟨rfl, hb⟩; refine hK.out _ _ (held_call hHeld hb) (fun hHeld => ?_); clear hK K hb)
      try simp only [Act.put, List.setIfInBounds_toArray, List.set_cons_zero, List.set_cons_succ]
      first | (refine take_at (i := 15) (oi := _) (d := some 21) (v := undef) rfl rfl (by kernel_rfl) (by kernel_rfl) (by kernel_rfl) (fun _ _ _ h => h) (Or.inr ⟨by rfl, rfl⟩) hHeld ?_) | (refine take_at (i := 15) (oi := _) (d := some 21) (v := ?_) rfl rfl (by kernel_rfl) (by kernel_rfl) (by kernel_rfl) (fun _ _ _ h => h) (Or.inl ⟨by rfl, ?_⟩) hHeld ?_; rotate_left; next => (intro w hSw; (try dsimp only at hSw); go_simp; try with_reducible rfl))
      try simp only [Act.put, List.setIfInBounds_toArray, List.set_cons_zero, List.set_cons_succ]
      first | (refine take_at (i := 16) (oi := _) (d := some 5) (v := undef) rfl rfl (by kernel_rfl) (by kernel_rfl) (by kernel_rfl) (fun _ _ _ h => h) (Or.inr ⟨by rfl, rfl⟩) hHeld ?_) | (refine take_at (i := 16) (oi := _) (d := some 5) (v := ?_) rfl rfl (by kernel_rfl) (by kernel_rfl) (by kernel_rfl) (fun _ _ _ h => h) (Or.inl ⟨by rfl, ?_⟩) hHeld ?_; rotate_left; next => (intro w hSw; (try dsimp only at hSw); go_simp; try with_reducible rfl))
      try simp only [Act.put, List.setIfInBounds_toArray, List.set_cons_zero, List.set_cons_succ]
      refine wpAnyH_done (by kernel_rfl) ?_ _
      go_wp2_with fail
      go_ret
      exact ⟨ret_bool (by unfold nextB; rw [HJB.out, decide_eq_true HQ.out]; rfl), hHeld.2.trans (by repeat (first | with_reducible exact Gr.refl _ | with_reducible refine Gr.alloc ?_ _ | with_reducible refine Gr.drew ?_ | with_reducible refine Gr.trans ?_ (by assumption) | with_reducible refine Gr.setCell ?_ (by (try simp); (try omega)) _))⟩
  · have hqb : (far k == far a - 1) = false := by simp [hq]
    have HQ := Lib.hid hq
    clear hq
    go_enter Tryd.func46, Tryd.ntmps46
    go_upto_region 1 with fail
    refine wp_region_held_drew (S := fun wx => (∀ b o, (⟨min (b + 1) wo.heap.size, 0, none⟩ : Addr) = ⟨b + 1, 0, none⟩ → wx.cell? ⟨b, o, none⟩ = wo.cell? ⟨b, o, none⟩) ∧ Gr wo wx) (by kernel_rfl) (held_drew wo) (fun hHeld => ?_)
    first | (refine take_at (i := 0) (oi := _) (d := some 6) (v := undef) rfl rfl (by kernel_rfl) (by kernel_rfl) (by kernel_rfl) (fun _ _ _ h => h) (Or.inr ⟨by rfl, rfl⟩) hHeld ?_) | (refine take_at (i := 0) (oi := _) (d := some 6) (v := ?_) rfl rfl (by kernel_rfl) (by kernel_rfl) (by kernel_rfl) (fun _ _ _ h => h) (Or.inl ⟨by rfl, ?_⟩) hHeld ?_; rotate_left; next => (intro w hSw; (try dsimp only at hSw); go_simp; try with_reducible rfl))
    try simp only [Act.put, List.setIfInBounds_toArray, List.set_cons_zero, List.set_cons_succ]
    first | (refine take_at (i := 1) (oi := _) (d := some 7) (v := undef) rfl rfl (by kernel_rfl) (by kernel_rfl) (by kernel_rfl) (fun _ _ _ h => h) (Or.inr ⟨by rfl, rfl⟩) hHeld ?_) | (refine take_at (i := 1) (oi := _) (d := some 7) (v := ?_) rfl rfl (by kernel_rfl) (by kernel_rfl) (by kernel_rfl) (fun _ _ _ h => h) (Or.inl ⟨by rfl, ?_⟩) hHeld ?_; rotate_left; next => (intro w hSw; (try dsimp only at hSw); go_simp; try with_reducible rfl))
    try simp only [Act.put, List.setIfInBounds_toArray, List.set_cons_zero, List.set_cons_succ]
    first | (refine take_at (i := 2) (oi := _) (d := some 8) (v := undef) rfl rfl (by kernel_rfl) (by kernel_rfl) (by kernel_rfl) (fun _ _ _ h => h) (Or.inr ⟨by rfl, rfl⟩) hHeld ?_) | (refine take_at (i := 2) (oi := _) (d := some 8) (v := ?_) rfl rfl (by kernel_rfl) (by kernel_rfl) (by kernel_rfl) (fun _ _ _ h => h) (Or.inl ⟨by rfl, ?_⟩) hHeld ?_; rotate_left; next => (intro w hSw; (try dsimp only at hSw); go_simp; try with_reducible rfl))
    try simp only [Act.put, List.setIfInBounds_toArray, List.set_cons_zero, List.set_cons_succ]
    first | (refine take_at (i := 3) (oi := _) (d := some 9) (v := undef) rfl rfl (by kernel_rfl) (by kernel_rfl) (by kernel_rfl) (fun _ _ _ h => h) (Or.inr ⟨by rfl, rfl⟩) hHeld ?_) | (refine take_at (i := 3) (oi := _) (d := some 9) (v := ?_) rfl rfl (by kernel_rfl) (by kernel_rfl) (by kernel_rfl) (fun _ _ _ h => h) (Or.inl ⟨by rfl, ?_⟩) hHeld ?_; rotate_left; next => (intro w hSw; (try dsimp only at hSw); go_simp; try with_reducible rfl))
    try simp only [Act.put, List.setIfInBounds_toArray, List.set_cons_zero, List.set_cons_succ]
    first | (refine take_at (i := 4) (oi := _) (d := some 10) (v := undef) rfl rfl (by kernel_rfl) (by kernel_rfl) (by kernel_rfl) (fun _ _ _ h => h) (Or.inr ⟨by rfl, rfl⟩) hHeld ?_) | (refine take_at (i := 4) (oi := _) (d := some 10) (v := ?_) rfl rfl (by kernel_rfl) (by kernel_rfl) (by kernel_rfl) (fun _ _ _ h => h) (Or.inl ⟨by rfl, ?_⟩) hHeld ?_; rotate_left; next => (intro w hSw; (try dsimp only at hSw); go_simp; try with_reducible rfl))
    try simp only [Act.put, List.setIfInBounds_toArray, List.set_cons_zero, List.set_cons_succ]
    first | (refine take_at (i := 5) (oi := _) (d := some 11) (v := undef) rfl rfl (by kernel_rfl) (by kernel_rfl) (by kernel_rfl) (fun _ _ _ h => h) (Or.inr ⟨by rfl, rfl⟩) hHeld ?_) | (refine take_at (i := 5) (oi := _) (d := some 11) (v := ?_) rfl rfl (by kernel_rfl) (by kernel_rfl) (by kernel_rfl) (fun _ _ _ h => h) (Or.inl ⟨by rfl, ?_⟩) hHeld ?_; rotate_left; next => (intro w hSw; (try dsimp only at hSw); go_simp; try with_reducible rfl))
    try simp only [Act.put, List.setIfInBounds_toArray, List.set_cons_zero, List.set_cons_succ]
    first | (refine take_at (i := 6) (oi := _) (d := some 12) (v := undef) rfl rfl (by kernel_rfl) (by kernel_rfl) (by kernel_rfl) (fun _ _ _ h => h) (Or.inr ⟨by rfl, rfl⟩) hHeld ?_) | (refine take_at (i := 6) (oi := _) (d := some 12) (v := ?_) rfl rfl (by kernel_rfl) (by kernel_rfl) (by kernel_rfl) (fun _ _ _ h => h) (Or.inl ⟨by rfl, ?_⟩) hHeld ?_; rotate_left; next => (intro w hSw; (try dsimp only at hSw); go_simp; try with_reducible rfl))
    try simp only [Act.put, List.setIfInBounds_toArray, List.set_cons_zero, List.set_cons_succ]
    first | (refine take_at (i := 7) (oi := _) (d := some 13) (v := undef) rfl rfl (by kernel_rfl) (by kernel_rfl) (by kernel_rfl) (fun _ _ _ h => h) (Or.inr ⟨by rfl, rfl⟩) hHeld ?_) | (refine take_at (i := 7) (oi := _) (d := some 13) (v := ?_) rfl rfl (by kernel_rfl) (by kernel_rfl) (by kernel_rfl) (fun _ _ _ h => h) (Or.inl ⟨by rfl, ?_⟩) hHeld ?_; rotate_left; next => (intro w hSw; (try dsimp only at hSw); go_simp; try with_reducible rfl))
    try simp only [Act.put, List.setIfInBounds_toArray, List.set_cons_zero, List.set_cons_succ]
    first | (refine take_at (i := 8) (oi := _) (d := some 14) (v := undef) rfl rfl (by kernel_rfl) (by kernel_rfl) (by kernel_rfl) (fun _ _ _ h => h) (Or.inr ⟨by rfl, rfl⟩) hHeld ?_) | (refine take_at (i := 8) (oi := _) (d := some 14) (v := ?_) rfl rfl (by kernel_rfl) (by kernel_rfl) (by kernel_rfl) (fun _ _ _ h => h) (Or.inl ⟨by rfl, ?_⟩) hHeld ?_; rotate_left; next => (intro w hSw; (try dsimp only at hSw); go_simp; try with_reducible rfl))
    try simp only [Act.put, List.setIfInBounds_toArray, List.set_cons_zero, List.set_cons_succ]
    first | (refine take_at (i := 9) (oi := _) (d := some 15) (v := undef) rfl rfl (by kernel_rfl) (by kernel_rfl) (by kernel_rfl) (fun _ _ _ h => h) (Or.inr ⟨by rfl, rfl⟩) hHeld ?_) | (refine take_at (i := 9) (oi := _) (d := some 15) (v := ?_) rfl rfl (by kernel_rfl) (by kernel_rfl) (by kernel_rfl) (fun _ _ _ h => h) (Or.inl ⟨by rfl, ?_⟩) hHeld ?_; rotate_left; next => (intro w hSw; (try dsimp only at hSw); go_simp; try with_reducible rfl))
    try simp only [Act.put, List.setIfInBounds_toArray, List.set_cons_zero, List.set_cons_succ]
    first | (refine take_at (i := 10) (oi := _) (d := some 16) (v := undef) rfl rfl (by kernel_rfl) (by kernel_rfl) (by kernel_rfl) (fun _ _ _ h => h) (Or.inr ⟨by rfl, rfl⟩) hHeld ?_) | (refine take_at (i := 10) (oi := _) (d := some 16) (v := ?_) rfl rfl (by kernel_rfl) (by kernel_rfl) (by kernel_rfl) (fun _ _ _ h => h) (Or.inl ⟨by rfl, ?_⟩) hHeld ?_; rotate_left; next => (intro w hSw; (try dsimp only at hSw); go_simp; try with_reducible rfl))
    try simp only [Act.put, List.setIfInBounds_toArray, List.set_cons_zero, List.set_cons_succ]
    first | (refine take_at (i := 11) (oi := _) (d := some 17) (v := undef) rfl rfl (by kernel_rfl) (by kernel_rfl) (by kernel_rfl) (fun _ _ _ h => h) (Or.inr ⟨by rfl, rfl⟩) hHeld ?_) | (refine take_at (i := 11) (oi := _) (d := some 17) (v := ?_) rfl rfl (by kernel_rfl) (by kernel_rfl) (by kernel_rfl) (fun _ _ _ h => h) (Or.inl ⟨by rfl, ?_⟩) hHeld ?_; rotate_left; next => (intro w hSw; (try dsimp only at hSw); go_simp; try with_reducible rfl))
    try simp only [Act.put, List.setIfInBounds_toArray, List.set_cons_zero, List.set_cons_succ]
    first | (refine take_at (i := 12) (oi := _) (d := some 18) (v := undef) rfl rfl (by kernel_rfl) (by kernel_rfl) (by kernel_rfl) (fun _ _ _ h => h) (Or.inr ⟨by rfl, rfl⟩) hHeld ?_) | (refine take_at (i := 12) (oi := _) (d := some 18) (v := ?_) rfl rfl (by kernel_rfl) (by kernel_rfl) (by kernel_rfl) (fun _ _ _ h => h) (Or.inl ⟨by rfl, ?_⟩) hHeld ?_; rotate_left; next => (intro w hSw; (try dsimp only at hSw); go_simp; try with_reducible rfl))
    try simp only [Act.put, List.setIfInBounds_toArray, List.set_cons_zero, List.set_cons_succ]
    first | (refine take_at (i := 13) (oi := _) (d := some 19) (v := undef) rfl rfl (by kernel_rfl) (by kernel_rfl) (by kernel_rfl) (fun _ _ _ h => h) (Or.inr ⟨by rfl, rfl⟩) hHeld ?_) | (refine take_at (i := 13) (oi := _) (d := some 19) (v := ?_) rfl rfl (by kernel_rfl) (by kernel_rfl) (by kernel_rfl) (fun _ _ _ h => h) (Or.inl ⟨by rfl, ?_⟩) hHeld ?_; rotate_left; next => (intro w hSw; (try dsimp only at hSw); go_simp; try with_reducible rfl))
    try simp only [Act.put, List.setIfInBounds_toArray, List.set_cons_zero, List.set_cons_succ]
    first | (refine take_at (i := 14) (oi := _) (d := some 20) (v := undef) rfl rfl (by kernel_rfl) (by kernel_rfl) (by kernel_rfl) (fun _ _ _ h => h) (Or.inr ⟨by rfl, rfl⟩) hHeld ?_) | (refine wpAnyH_ready (rs := [14]) (by kernel_rfl) (by simp) (AllReadyH.cons (o := _) rfl (fun K hK => ?_) AllReadyH.nil); go_simp; go_at_call 42; refine (HJ.out _ hHeld.2).mono ?_; rintro e w' ⟨rfl, hb⟩; refine hK.out _ _ (held_call hHeld hb) (fun hHeld => ?_); clear hK K hb)
    try simp only [Act.put, List.setIfInBounds_toArray, List.set_cons_zero, List.set_cons_succ]
    first | (refine take_at (i := 15) (oi := _) (d := some 21) (v := undef) rfl rfl (by kernel_rfl) (by kernel_rfl) (by kernel_rfl) (fun _ _ _ h => h) (Or.inr ⟨by rfl, rfl⟩) hHeld ?_) | (refine take_at (i := 15) (oi := _) (d := some 21) (v := ?_) rfl rfl (by kernel_rfl) (by kernel_rfl) (by kernel_rfl) (fun _ _ _ h => h) (Or.inl ⟨by rfl, ?_⟩) hHeld ?_; rotate_left; next => (intro w hSw; (try dsimp only at hSw); go_simp; try with_reducible rfl))
    try simp only [Act.put, List.setIfInBounds_toArray, List.set_cons_zero, List.set_cons_succ]
    first | (refine take_at (i := 16) (oi := _) (d := some 5) (v := undef) rfl rfl (by kernel_rfl) (by kernel_rfl) (by kernel_rfl) (fun _ _ _ h => h) (Or.inr ⟨by rfl, rfl⟩) hHeld ?_) | (refine take_at (i := 16) (oi := _) (d := some 5) (v := ?_) rfl rfl (by kernel_rfl) (by kernel_rfl) (by kernel_rfl) (fun _ _ _ h => h) (Or.inl ⟨by rfl, ?_⟩) hHeld ?_; rotate_left; next => (intro w hSw; (try dsimp only at hSw); go_simp; try with_reducible rfl))
    try simp only [Act.put, List.setIfInBounds_toArray, List.set_cons_zero, List.set_cons_succ]
    refine wpAnyH_done (by kernel_rfl) ?_ _
    go_wp2_with fail
    go_ret
    exact ⟨ret_bool (by unfold nextB; rw [decide_eq_false HQ.out]; rfl), hHeld.2.trans (by repeat (first | with_reducible exact Gr.refl _ | with_reducible refine Gr.alloc ?_ _ | with_reducible refine Gr.drew ?_ | with_reducible refine Gr.trans ?_ (by assumption) | with_reducible refine Gr.setCell ?_ (by (try simp); (try omega)) _))⟩

/-- The first of n numbers for which P holds, or -1. -/
def FirstP (P : Nat → Bool) (n : Nat) (r : Int) : Prop := (∃ k : Nat, k < n ∧ P k = true ∧ (∀ j, j < k → P j = false) ∧ r = (k : Int)) ∨ ((∀ j, j < n → P j = false) ∧ r = -1)
def IdxN (P : Nat → Bool) (n : Nat) (w : World) (e : Ending) (w' : World) : Prop := ∃ r : Int, e = .returned (.int .i64 r) ∧ FirstP P n r ∧ Gr w w'

set_option maxRecDepth 100000 in
set_option maxHeartbeats 4000000 in
theorem idxNext (P : Nat → Bool) (A : Option Addr) (n c : Nat) (lb : Array Value) (B1 B2 B3 : Nat) (w : World) (hA : IntsAt w A n (fun j => (j : Int))) (hn : n ≤ 200) (hlb : lb = #[.pointer (some ⟨B1, 0, none⟩), .pointer (some ⟨B2, 0, none⟩), .pointer (some ⟨B3, 0, none⟩)])
    (hC : ∀ W, Gr w W → ∀ k, k < n → Calls Tryd.prog 46 #[.int .i64 (k : Int), .pointer (some ⟨B1, 0, none⟩), .pointer (some ⟨B2, 0, none⟩), .pointer (some ⟨B3, 0, none⟩)] W fun e w' => e = .returned (.bool (P k)) ∧ Gr W w') :
    Calls Tryd.prog 44 #[.slice A n c, .func (.func 46) #[] lb] w (IdxN P n w) := by
  subst hlb
  have HA := Lib.hid hA; have HC := Lib.hid hC
  clear hA hC
  go_enter Tryd.func44, Tryd.ntmps44
  go_wp2
  go_loopw [8] (fun i wr => ∃ j : Nat, j ≤ n ∧ i = .int .i64 j ∧ (∀ i', i' < j → P i' = false) ∧ Gr w wr) (fun i _ => n - (intOf i).toNat)
  case atStart => exact ⟨0, Nat.zero_le _, rfl, fun i' h => absurd h (by omega), Gr.refl _⟩
  case round =>
    obtain ⟨j, hj, rfl, hok, hg⟩ := hrel
    have HOK := Lib.hid hok; have HG := Lib.hid hg
    clear hok hg
    by_cases hlt : j < n
    · obtain ⟨b, off, rfl, hb, hc⟩ := (HA.out.keep HG.out).one hlt
      have hW := fun W h => HC.out W h j hlt
      obtain ⟨wp, rfl⟩ : ∃ wp : World, wp = wr := ⟨_, rfl⟩
      rcases tfq (P j) with hx | hx
      · have HX := Lib.hid hx
        rw [hx] at hW
        have HW := Lib.hid hW
        clear hW hx
        go_wp2_with fail
        (go_at_call 46; with_reducible refine (HW.out _ HG.out).mono ?_; rintro e w' ⟨rfl, hb⟩; have hz := hb.le; obtain ⟨hc, hf⟩ := hb.cells; have hn := hb.cellsN; (try simp only [World.size_alloc] at hc hf hz hn); (try simp only [World.size_setCell] at hc hf hz hn); (try simp only [World.size_drew] at hc hf hz hn))
        go_wp2_with fail
        go_ret
        exact ⟨_, rfl, Or.inl ⟨j, hlt, HX.out, HOK.out, rfl⟩, HG.out.trans (by repeat (first | with_reducible exact Gr.refl _ | with_reducible refine Gr.alloc ?_ _ | with_reducible refine Gr.drew ?_ | with_reducible refine Gr.trans ?_ (by assumption) | with_reducible refine Gr.setCell ?_ (by (try simp); (try omega)) _))⟩
      · have HS : Hid (∀ i', i' < j + 1 → P i' = false) := Lib.hid (fun i' h => by
          by_cases e : i' = j
          · rw [e]; exact hx
          · exact HOK.out i' (by omega))
        rw [hx] at hW
        have HW := Lib.hid hW
        clear hW hx
        go_wp2_with fail
        (go_at_call 46; with_reducible refine (HW.out _ HG.out).mono ?_; rintro e w' ⟨rfl, hb⟩; have hz := hb.le; obtain ⟨hc, hf⟩ := hb.cells; have hn := hb.cellsN; (try simp only [World.size_alloc] at hc hf hz hn); (try simp only [World.size_setCell] at hc hf hz hn); (try simp only [World.size_drew] at hc hf hz hn))
        go_wp2_with fail
        go_roundw
        case rel => exact ⟨j + 1, by omega, by go_num, HS.out, HG.out.trans (by repeat (first | with_reducible exact Gr.refl _ | with_reducible refine Gr.alloc ?_ _ | with_reducible refine Gr.drew ?_ | with_reducible refine Gr.trans ?_ (by assumption) | with_reducible refine Gr.setCell ?_ (by (try simp); (try omega)) _))⟩
        case measure => simp [intOf]; omega
    · obtain rfl : n = j := by omega
      obtain ⟨wp, rfl⟩ : ∃ wp : World, wp = wr := ⟨_, rfl⟩
      go_wp2
      go_ret
      exact ⟨-1, rfl, Or.inr ⟨HOK.out, rfl⟩, HG.out⟩
end Go.Proofs.YtiogfohjepobkaaDoor

namespace Go.Proofs.YtiogfohjepobkaaDoor
open Go.RowKit

set_option maxRecDepth 100000 in
set_option maxHeartbeats 4000000 in
theorem way_bad1 (l0 l1 l2 l3 l4 l5 h0 h1 h2 h3 h4 h5 st br : Int) (A : Option Addr) (n c : Nat) (fr tz : Int) (w : World) (hP : Primes w) (hok : voiceOk ⟨l0, l1, l2, l3, l4, l5⟩ ⟨h0, h1, h2, h3, h4, h5⟩ st br = false) :
    Calls Tryd.prog 22 #[.agg #[.int .i64 l0, .int .i64 l1, .int .i64 l2, .int .i64 l3, .int .i64 l4, .int .i64 l5, .int .i64 h0, .int .i64 h1, .int .i64 h2, .int .i64 h3, .int .i64 h4, .int .i64 h5, .int .i64 st, .int .i64 br], .slice A n c, .int .i64 fr, .int .i64 tz] w fun e w' => e = .returned (.tuple #[.slice none 0 0, .int .i64 1]) ∧ Gr w w' := by
  have HP := Lib.hid hP
  have hW := fun W (h : Primes W) => voiceValid_any l0 l1 l2 l3 l4 l5 h0 h1 h2 h3 h4 h5 st br W h
  simp only [hok] at hW
  have HW := Lib.hid hW
  clear hW hok hP
  go_enter Tryd.func22, Tryd.ntmps22
  go_wp2_with fail
  (go_at_call 11; with_reducible refine (HW.out _ (HP.out.keep (by repeat (first | with_reducible exact Gr.refl _ | with_reducible refine Gr.alloc ?_ _ | with_reducible refine Gr.drew ?_ | with_reducible refine Gr.trans ?_ (by assumption) | with_reducible refine Gr.setCell ?_ (by (try simp); (try omega)) _)))).mono ?_; rintro e w' ⟨rfl, hb⟩; have hz := hb.le; obtain ⟨hc, hf⟩ := hb.cells; have hn := hb.cellsN; (try simp only [World.size_alloc] at hc hf hz hn); (try simp only [World.size_setCell] at hc hf hz hn); (try simp only [World.size_drew] at hc hf hz hn))
  go_wp2_with fail
  go_ret2
  exact ⟨rfl, (by repeat (first | with_reducible exact Gr.refl _ | with_reducible refine Gr.alloc ?_ _ | with_reducible refine Gr.drew ?_ | with_reducible refine Gr.trans ?_ (by assumption) | with_reducible refine Gr.setCell ?_ (by (try simp); (try omega)) _))⟩

set_option maxRecDepth 100000 in
set_option maxHeartbeats 4000000 in
theorem way_bad2 (l0 l1 l2 l3 l4 l5 h0 h1 h2 h3 h4 h5 st br : Int) (A : Option Addr) (n c : Nat) (fr tz : Int) (w : World) (hP : Primes w) (hok : voiceOk ⟨l0, l1, l2, l3, l4, l5⟩ ⟨h0, h1, h2, h3, h4, h5⟩ st br = true) (hn : 200 < n) :
    Calls Tryd.prog 22 #[.agg #[.int .i64 l0, .int .i64 l1, .int .i64 l2, .int .i64 l3, .int .i64 l4, .int .i64 l5, .int .i64 h0, .int .i64 h1, .int .i64 h2, .int .i64 h3, .int .i64 h4, .int .i64 h5, .int .i64 st, .int .i64 br], .slice A n c, .int .i64 fr, .int .i64 tz] w fun e w' => e = .returned (.tuple #[.slice none 0 0, .int .i64 1]) ∧ Gr w w' := by
  have HP := Lib.hid hP
  have hW := fun W (h : Primes W) => voiceValid_any l0 l1 l2 l3 l4 l5 h0 h1 h2 h3 h4 h5 st br W h
  simp only [hok] at hW
  have HW := Lib.hid hW
  clear hW hok hP
  go_enter Tryd.func22, Tryd.ntmps22
  go_wp2_with fail
  (go_at_call 11; with_reducible refine (HW.out _ (HP.out.keep (by repeat (first | with_reducible exact Gr.refl _ | with_reducible refine Gr.alloc ?_ _ | with_reducible refine Gr.drew ?_ | with_reducible refine Gr.trans ?_ (by assumption) | with_reducible refine Gr.setCell ?_ (by (try simp); (try omega)) _)))).mono ?_; rintro e w' ⟨rfl, hb⟩; have hz := hb.le; obtain ⟨hc, hf⟩ := hb.cells; have hn := hb.cellsN; (try simp only [World.size_alloc] at hc hf hz hn); (try simp only [World.size_setCell] at hc hf hz hn); (try simp only [World.size_drew] at hc hf hz hn))
  go_wp2_with fail
  go_ret2
  exact ⟨rfl, (by repeat (first | with_reducible exact Gr.refl _ | with_reducible refine Gr.alloc ?_ _ | with_reducible refine Gr.drew ?_ | with_reducible refine Gr.trans ?_ (by assumption) | with_reducible refine Gr.setCell ?_ (by (try simp); (try omega)) _))⟩

set_option maxRecDepth 100000 in
set_option maxHeartbeats 4000000 in
theorem way_bad3 (l0 l1 l2 l3 l4 l5 h0 h1 h2 h3 h4 h5 st br : Int) (A : Option Addr) (n c : Nat) (fr tz : Int) (f : Nat → Nat → Int) (w : World) (hP : Primes w) (hA : RowsAt w 6 A n f) (hok : voiceOk ⟨l0, l1, l2, l3, l4, l5⟩ ⟨h0, h1, h2, h3, h4, h5⟩ st br = true) (hn : n ≤ 200) (hv : vecsOk f n = false) :
    Calls Tryd.prog 22 #[.agg #[.int .i64 l0, .int .i64 l1, .int .i64 l2, .int .i64 l3, .int .i64 l4, .int .i64 l5, .int .i64 h0, .int .i64 h1, .int .i64 h2, .int .i64 h3, .int .i64 h4, .int .i64 h5, .int .i64 st, .int .i64 br], .slice A n c, .int .i64 fr, .int .i64 tz] w fun e w' => e = .returned (.tuple #[.slice none 0 0, .int .i64 1]) ∧ Gr w w' := by
  have HP := Lib.hid hP
  have hW := fun W (h : Primes W) => voiceValid_any l0 l1 l2 l3 l4 l5 h0 h1 h2 h3 h4 h5 st br W h
  simp only [hok] at hW
  have HW := Lib.hid hW
  clear hW hok hP
  have HA := Lib.hid hA
  have hC := fun W h => anyWrongVec A n c f W h hn
  rw [hv] at hC
  have HC := Lib.hid hC
  clear hA hC hv
  go_enter Tryd.func22, Tryd.ntmps22
  go_wp2_with fail
  (go_at_call 11; with_reducible refine (HW.out _ (HP.out.keep (by repeat (first | with_reducible exact Gr.refl _ | with_reducible refine Gr.alloc ?_ _ | with_reducible refine Gr.drew ?_ | with_reducible refine Gr.trans ?_ (by assumption) | with_reducible refine Gr.setCell ?_ (by (try simp); (try omega)) _)))).mono ?_; rintro e w' ⟨rfl, hb⟩; have hz := hb.le; obtain ⟨hc, hf⟩ := hb.cells; have hn := hb.cellsN; (try simp only [World.size_alloc] at hc hf hz hn); (try simp only [World.size_setCell] at hc hf hz hn); (try simp only [World.size_drew] at hc hf hz hn))
  have HG := Lib.hid (show Gr w w' from (by repeat (first | with_reducible exact Gr.refl _ | with_reducible refine Gr.alloc ?_ _ | with_reducible refine Gr.drew ?_ | with_reducible refine Gr.trans ?_ (by assumption) | with_reducible refine Gr.setCell ?_ (by (try simp); (try omega)) _)))
  clear hb hz hc hf
  obtain ⟨W0, rfl⟩ : ∃ W0 : World, W0 = w' := ⟨_, rfl⟩
  go_wp2_with fail
  (go_at_call 41; with_reducible refine (HC.out _ (HA.out.keep HG.out)).mono ?_; rintro e w' ⟨rfl, hb⟩; have hz := hb.le; obtain ⟨hc, hf⟩ := hb.cells; have hn := hb.cellsN; (try simp only [World.size_alloc] at hc hf hz hn); (try simp only [World.size_setCell] at hc hf hz hn); (try simp only [World.size_drew] at hc hf hz hn))
  go_wp2_with fail
  go_ret2
  exact ⟨rfl, HG.out.trans (by repeat (first | with_reducible exact Gr.refl _ | with_reducible refine Gr.alloc ?_ _ | with_reducible refine Gr.drew ?_ | with_reducible refine Gr.trans ?_ (by assumption) | with_reducible refine Gr.setCell ?_ (by (try simp); (try omega)) _))⟩

set_option maxRecDepth 100000 in
set_option maxHeartbeats 4000000 in
theorem way_bad4 (l0 l1 l2 l3 l4 l5 h0 h1 h2 h3 h4 h5 st br : Int) (A : Option Addr) (n c : Nat) (fr tz : Int) (f : Nat → Nat → Int) (w : World) (hP : Primes w) (hA : RowsAt w 6 A n f) (hok : voiceOk ⟨l0, l1, l2, l3, l4, l5⟩ ⟨h0, h1, h2, h3, h4, h5⟩ st br = true) (hn : n ≤ 200) (hv : vecsOk f n = true) (hft : ¬ (0 ≤ fr ∧ fr < n ∧ 0 ≤ tz ∧ tz < n)) :
    Calls Tryd.prog 22 #[.agg #[.int .i64 l0, .int .i64 l1, .int .i64 l2, .int .i64 l3, .int .i64 l4, .int .i64 l5, .int .i64 h0, .int .i64 h1, .int .i64 h2, .int .i64 h3, .int .i64 h4, .int .i64 h5, .int .i64 st, .int .i64 br], .slice A n c, .int .i64 fr, .int .i64 tz] w fun e w' => e = .returned (.tuple #[.slice none 0 0, .int .i64 1]) ∧ Gr w w' := by
  have HP := Lib.hid hP
  have hW := fun W (h : Primes W) => voiceValid_any l0 l1 l2 l3 l4 l5 h0 h1 h2 h3 h4 h5 st br W h
  simp only [hok] at hW
  have HW := Lib.hid hW
  clear hW hok hP
  have HA := Lib.hid hA
  have hC := fun W h => anyWrongVec A n c f W h hn
  rw [hv] at hC
  have HC := Lib.hid hC
  clear hA hC hv
  rcases (by omega : fr < 0 ∨ (0 ≤ fr ∧ (n : Int) ≤ fr) ∨ (0 ≤ fr ∧ fr < n ∧ tz < 0) ∨ (0 ≤ fr ∧ fr < n ∧ 0 ≤ tz ∧ (n : Int) ≤ tz)) with q1 | ⟨q1, q2⟩ | ⟨q1, q2, q3⟩ | ⟨q1, q2, q3, q4⟩
  all_goals
    clear hft
    go_enter Tryd.func22, Tryd.ntmps22
    go_wp2_with fail
    (go_at_call 11; with_reducible refine (HW.out _ (HP.out.keep (by repeat (first | with_reducible exact Gr.refl _ | with_reducible refine Gr.alloc ?_ _ | with_reducible refine Gr.drew ?_ | with_reducible refine Gr.trans ?_ (by assumption) | with_reducible refine Gr.setCell ?_ (by (try simp); (try omega)) _)))).mono ?_; rintro e w' ⟨rfl, hb⟩; have hz := hb.le; obtain ⟨hc, hf⟩ := hb.cells; have hn := hb.cellsN; (try simp only [World.size_alloc] at hc hf hz hn); (try simp only [World.size_setCell] at hc hf hz hn); (try simp only [World.size_drew] at hc hf hz hn))
    have HG := Lib.hid (show Gr w w' from (by repeat (first | with_reducible exact Gr.refl _ | with_reducible refine Gr.alloc ?_ _ | with_reducible refine Gr.drew ?_ | with_reducible refine Gr.trans ?_ (by assumption) | with_reducible refine Gr.setCell ?_ (by (try simp); (try omega)) _)))
    clear hb hz hc hf
    obtain ⟨W0, rfl⟩ : ∃ W0 : World, W0 = w' := ⟨_, rfl⟩
    go_wp2_with fail
    (go_at_call 41; with_reducible refine (HC.out _ (HA.out.keep HG.out)).mono ?_; rintro e w' ⟨rfl, hb⟩; have hz := hb.le; obtain ⟨hc, hf⟩ := hb.cells; have hn := hb.cellsN; (try simp only [World.size_alloc] at hc hf hz hn); (try simp only [World.size_setCell] at hc hf hz hn); (try simp only [World.size_drew] at hc hf hz hn))
    go_wp2_with fail
    go_ret2
    exact ⟨rfl, HG.out.trans (by repeat (first | with_reducible exact Gr.refl _ | with_reducible refine Gr.alloc ?_ _ | with_reducible refine Gr.drew ?_ | with_reducible refine Gr.trans ?_ (by assumption) | with_reducible refine Gr.setCell ?_ (by (try simp); (try omega)) _))⟩
end Go.Proofs.YtiogfohjepobkaaDoor

namespace Go.Proofs.YtiogfohjepobkaaDoor
open Go.RowKit

/-- A way so far, by the nearest numbers, and where it stands. -/
inductive Path (J : Nat → Nat → Bool) (n : Nat) (far : Nat → Int) (fr : Nat) : List Nat → Nat → Prop
  | one : Path J n far fr [fr] fr
  | snoc {l : List Nat} {a k : Nat} : Path J n far fr l a → 0 < far a → k < n → nextB J far a k = true → (∀ j, j < k → nextB J far a j = false) → Path J n far fr (l ++ [k]) k
/-- The whole way. -/
def WayOk (J : Nat → Nat → Bool) (n : Nat) (far : Nat → Int) (fr : Nat) (l : List Nat) : Prop := ∃ a, Path J n far fr l a ∧ far a = 0
theorem Path.facts {J : Nat → Nat → Bool} {n fr : Nat} {far : Nat → Int} {l : List Nat} {a : Nat} (h : Path J n far fr l a) (hf : fr < n) (h0 : 0 ≤ far fr) : a < n ∧ (l.length : Int) + far a = 1 + far fr ∧ 0 ≤ far a := by
  induction h with
  | one => exact ⟨hf, by simp, h0⟩
  | @snoc l a k h1 h2 h3 h4 h5 ih =>
    simp only [nextB, Bool.and_eq_true, decide_eq_true_eq] at h4
    rw [List.length_append, List.length_singleton]
    exact ⟨h3, by omega, by omega⟩
theorem next_is {J : Nat → Nat → Bool} {n tz : Nat} {far : Nat → Int} (h : FarOk J n tz far) {a : Nat} (ha : a < n) (hp : 0 < far a) : ∃ k, k < n ∧ nextB J far a k = true := by
  rcases h a ha with ⟨h1, _⟩ | ⟨d, h1, h2, h3⟩
  · omega
  · obtain ⟨d, rfl⟩ : ∃ d', d = d' + 1 := ⟨d - 1, by omega⟩
    obtain ⟨k, hk, hj, hw⟩ := h2
    refine ⟨k, hk, ?_⟩
    simp only [nextB, Bool.and_eq_true, decide_eq_true_eq]
    refine ⟨?_, hj⟩
    rcases h k hk with ⟨_, h5⟩ | ⟨d2, h5, h6, h7⟩
    · exact (h5 d hw).elim
    · have e1 : ¬ d < d2 := fun hlt => h7 d hlt hw
      have e2 : ¬ d2 < d := fun hlt => h3 (d2 + 1) (by omega) ⟨k, hk, hj, h6⟩
      omega
/-- What Way comes to at valid inputs. -/
def WayP (lo hi : V6) (st : Int) (f : Nat → Nat → Int) (n fr tz : Nat) (w : World) (e : Ending) (w' : World) : Prop :=
  Gr w w' ∧ ((hasB lo hi ⟨f tz 0, f tz 1, f tz 2, f tz 3, f tz 4, f tz 5⟩ = false ∧ e = .returned (.tuple #[.slice none 0 0, .int .i64 4])) ∨
    (hasB lo hi ⟨f tz 0, f tz 1, f tz 2, f tz 3, f tz 4, f tz 5⟩ = true ∧ ∃ far : Nat → Int, FarOk (joinB lo hi st f) n tz far ∧ (∀ y, y < n → far y + 1 ≤ (n : Int)) ∧
      ((far fr < 0 ∧ e = .returned (.tuple #[.slice none 0 0, .int .i64 4])) ∨
       (0 ≤ far fr ∧ ∃ (l : List Nat) (v : Value), WayOk (joinB lo hi st f) n far fr l ∧ e = .returned (.tuple #[v, .int .i64 0]) ∧ w'.ownsRow w.heap.size 3 1 v l.length (l.map fun x : Nat => Value.int .i64 (x : Int))))))

/-- Between two steps of the way. -/
structure WS (S : Value) (J : Nat → Nat → Bool) (n fr F B1 B3 base : Nat) (far : Nat → Int) (W5 : World) (l : List Nat) (a : Nat) (v : Value) (B2 : Nat) (wr : World) : Prop where
  path : Path J n far fr l a
  own : OwnL base 3 1 W5 v l.length (l.map fun x : Nat => Value.int .i64 (x : Int)) wr
  b2 : base ≤ B2
  l2 : B2 < wr.heap.size
  c2 : wr.cell? ⟨B2, 0, none⟩ = some (.int .i64 (a : Int))
  f2 : wr.frozen? ⟨B2, 0, none⟩ = false
  ne : v.ownBlock ≠ some B2
theorem WS.cap {S : Value} {J : Nat → Nat → Bool} {n fr F B1 B3 base : Nat} {far : Nat → Int} {W5 : World} {l : List Nat} {a : Nat} {v : Value} {B2 : Nat} {wr : World} (h : WS S J n fr F B1 B3 base far W5 l a v B2 wr) 
    (l1 : B1 < base) (l3 : B3 < base) (lF : F < base) (c1 : W5.cell? ⟨B1, 0, none⟩ = some (.slice (some ⟨F, 0, none⟩) n n)) (c3 : W5.cell? ⟨B3, 0, none⟩ = some (.func (.func 42) #[S] #[])) (hr : IntRow W5 F n far) : Cap S n F B1 B2 B3 a far wr := by
  have hz := h.own.size
  exact ⟨by omega, h.l2, by omega, (h.own.cell l1).trans c1, h.c2, (h.own.cell l3).trans c3, ⟨by omega, fun o => (Below.frozen (p := ⟨F, o, none⟩) h.own.below lF).trans (hr.froz o), fun j hj => (h.own.cell lF).trans (hr.cell j hj)⟩⟩
theorem own_first {W : World} (x : Value) (T : TypeId) : (W.alloc (.cells #[x] T)).ownsRow W.heap.size T 1 (.slice (some ⟨W.heap.size, 0, none⟩) 1 1) 1 [x] :=
  ⟨rfl, .inr ⟨W.heap.size, 1, #[x], rfl, Nat.le_refl _, World.alloc_heap_new W _, Nat.le_refl _, by simp [maxLen], rfl, rfl⟩⟩
theorem ws_start {S : Value} {J : Nat → Nat → Bool} {n fr F B1 B3 : Nat} {far : Nat → Int} (W5 : World) :
    WS S J n fr F B1 B3 W5.heap.size far W5 [fr] fr (.slice (some ⟨W5.heap.size, 0, none⟩) 1 1) (W5.heap.size + 1) ((W5.alloc (.cells #[.int .i64 (fr : Int)] 3)).alloc (.cells #[.int .i64 (fr : Int)] 3)) := by
  have ho : OwnL W5.heap.size 3 1 W5 (.slice (some ⟨W5.heap.size, 0, none⟩) 1 1) 1 [.int .i64 (fr : Int)] (W5.alloc (.cells #[.int .i64 (fr : Int)] 3)) := ⟨(Gr.refl W5).alloc _, own_first _ _, by simp⟩
  refine ⟨.one, ho.alloc _, by omega, by simp, ?_, ?_, by simp [Value.ownBlock]⟩
  · have := cell_one_at (W5.alloc (.cells #[.int .i64 (fr : Int)] 3)) (.int .i64 (fr : Int)) 3
    rwa [World.size_alloc] at this
  · simp [go_sem]
/-- The world ahead of the append of a step. -/
def stepW (w7 : World) (B2 k : Nat) : World := ((w7.setCell ⟨B2, 0, none⟩ (.int .i64 (k : Int))).alloc (.cells #[.int .i64 (k : Int)] 3)).alloc (.cells #[.int .i64 (k : Int)] 3)
theorem WS.step {S : Value} {J : Nat → Nat → Bool} {n fr F B1 B3 base : Nat} {far : Nat → Int} {W5 : World} {l : List Nat} {a : Nat} {v : Value} {B2 : Nat} {wr w7 : World} (h : WS S J n fr F B1 B3 base far W5 l a v B2 wr) (g : Gr wr w7) (k : Nat) : OwnL base 3 1 W5 v l.length (l.map fun x : Nat => Value.int .i64 (x : Int)) (stepW w7 B2 k) := by
  have h1 := h.own.gr g
  have h2 : OwnL base 3 1 W5 v l.length (l.map fun x : Nat => Value.int .i64 (x : Int)) (w7.setCell ⟨B2, 0, none⟩ (.int .i64 (k : Int))) :=
    ⟨Below.setCell h1.below h.b2 _, h1.own.kept (Go.grownBy_setCell' w7 B2 _) (by cases e : v.ownBlock with
      | none => exact .inl rfl
      | some g => exact .inr (by have := h.ne; rw [e] at this; exact this)), by simpa using h1.size⟩
  exact (h2.alloc _).alloc _
theorem WS.next {S : Value} {J : Nat → Nat → Bool} {n fr F B1 B3 base : Nat} {far : Nat → Int} {W5 : World} {l : List Nat} {a k g' cap' : Nat} {v : Value} {B2 : Nat} {wr w7 w9 : World} (h : WS S J n fr F B1 B3 base far W5 l a v B2 wr) (g : Gr wr w7)
    (hp : 0 < far a) (hk : k < n) (hn : nextB J far a k = true) (hm : ∀ j, j < k → nextB J far a j = false)
    (hown : w9.ownsRow base 3 1 (.slice (some ⟨g', 0, none⟩) (l.length + 1) cap') (l.length + 1) ((l.map fun x : Nat => Value.int .i64 (x : Int)) ++ [.int .i64 (k : Int)])) (hgrow : (stepW w7 B2 k).grownBy w9 v.ownBlock) (hat : v.ownBlock = some g' ∨ g' = (stepW w7 B2 k).heap.size) :
    WS S J n fr F B1 B3 base far W5 (l ++ [k]) k (.slice (some ⟨g', 0, none⟩) (l.length + 1) cap') w7.heap.size w9 := by
  have h8 := h.step g k
  have hs : (stepW w7 B2 k).heap.size = w7.heap.size + 1 + 1 := by simp [stepW]
  have hlt : ∀ x, v.ownBlock = some x → x < w7.heap.size := fun x e => ((h.own.gr g).own.lt x e).2
  have hne : some w7.heap.size ≠ v.ownBlock := fun e => by have := hlt _ e.symm; omega
  have hb7 : base ≤ w7.heap.size := (h.own.gr g).size
  have hblk := hgrow.block w7.heap.size (by omega) hne
  have hold : (stepW w7 B2 k).heap[w7.heap.size]? = some (.cells #[.int .i64 (k : Int)] 3 (0, 0)) := by
    unfold stepW
    refine (Below.heap_alloc _ _ _ (by simp)).trans ?_
    have := World.alloc_heap_new (w7.setCell ⟨B2, 0, none⟩ (.int .i64 (k : Int))) (.cells #[.int .i64 (k : Int)] 3)
    rwa [World.size_setCell] at this
  have hnow := hblk.trans hold
  refine ⟨.snoc h.path hp hk hn hm, ?_, hb7, by have := hgrow.size; omega, by simp [World.cell?, hnow], by simp [World.frozen?, hnow], ?_⟩
  · have := h8.grown hown hgrow
    rw [List.length_append, List.length_singleton, List.map_append]
    exact this
  · intro e
    have e' : g' = w7.heap.size := by simpa [Value.ownBlock] using e
    rcases hat with h1 | h1
    · exact hne (by rw [h1, e'])
    · omega
theorem step_new (w7 : World) (B2 k : Nat) : ∀ j u, [Value.int .i64 (k : Int)][j]? = some u → (stepW w7 B2 k).cell? ((⟨w7.heap.size + 1, 0, none⟩ : Addr).add j) = some u := by
  intro j u hj
  match j, hj with
  | 0, hj =>
    simp at hj; subst hj
    have := cell_one_at ((w7.setCell ⟨B2, 0, none⟩ (.int .i64 (k : Int))).alloc (.cells #[.int .i64 (k : Int)] 3)) (.int .i64 (k : Int)) 3
    rw [World.size_alloc, World.size_setCell] at this
    exact this
/-- How far it is still to go. -/
def goM (far : Nat → Int) : Value → World → Nat
  | .pointer (some p), W => match W.cell? p with
    | some (.int _ x) => (far x.toNat).toNat
    | _ => 0
  | _, _ => 0
theorem goM_is {far : Nat → Int} {W : World} {p : Addr} {a : Nat} (h : W.cell? p = some (.int .i64 (a : Int))) : goM far (.pointer (some p)) W = (far a).toNat := by simp [goM, h]

set_option maxRecDepth 100000 in
set_option maxHeartbeats 16000000 in
theorem way_good (l0 l1 l2 l3 l4 l5 h0 h1 h2 h3 h4 h5 st br : Int) (A : Option Addr) (n c fr tz : Nat) (f : Nat → Nat → Int) (w : World) (hP : Primes w) (hL : Logs w) (hA : RowsAt w 6 A n f) (hok : voiceOk ⟨l0, l1, l2, l3, l4, l5⟩ ⟨h0, h1, h2, h3, h4, h5⟩ st br = true) (hn200 : n ≤ 200) (hv : vecsOk f n = true) (hfr : fr < n) (ht : tz < n) :
    Calls Tryd.prog 22 #[.agg #[.int .i64 l0, .int .i64 l1, .int .i64 l2, .int .i64 l3, .int .i64 l4, .int .i64 l5, .int .i64 h0, .int .i64 h1, .int .i64 h2, .int .i64 h3, .int .i64 h4, .int .i64 h5, .int .i64 st, .int .i64 br], .slice A n c, .int .i64 (fr : Int), .int .i64 (tz : Int)] w (WayP ⟨l0, l1, l2, l3, l4, l5⟩ ⟨h0, h1, h2, h3, h4, h5⟩ st f n fr tz w) := by
  obtain ⟨b, off, rfl, hbb, z0, z1, z2, z3, z4, z5⟩ := hA.six ht
  have HOK := Lib.hid (voiceOk_parts hok)
  have HXT := Lib.hid (vecsOk_at hv tz ht)
  have HL := Lib.hid hL
  have hJ := fun W (g : Gr w W) i k (hi : i < n) (hk : k < n) => joins_any l0 l1 l2 l3 l4 l5 h0 h1 h2 h3 h4 h5 st br (some ⟨b, off, none⟩) n c i k f W (hP.keep g) (hL.keep g) (hA.keep g) hok hv hi hk
  have HJ := Lib.hid hJ
  have hH := fun W h => shas_ok l0 l1 l2 l3 l4 l5 h0 h1 h2 h3 h4 h5 st br (f tz 0) (f tz 1) (f tz 2) (f tz 3) (f tz 4) (f tz 5) (some ⟨b, off, none⟩) n c W h HOK.out.1 HOK.out.2.1 HXT.out
  clear hJ hL
  clear z0 z1 z2 z3 z4 z5
  have q1 : decide (200 < (n : Int)) = false := decide_eq_false (by omega)
  have q2 : decide ((fr : Int) < 0) = false := decide_eq_false (by omega)
  have q3 : decide (n ≤ fr) = false := decide_eq_false (by omega)
  have q4 : decide ((tz : Int) < 0) = false := decide_eq_false (by omega)
  have q5 : decide (n ≤ tz) = false := decide_eq_false (by omega)
  have HP := Lib.hid hP
  have hW := fun W (h : Primes W) => voiceValid_any l0 l1 l2 l3 l4 l5 h0 h1 h2 h3 h4 h5 st br W h
  simp only [hok] at hW
  have HW := Lib.hid hW
  clear hW hok hP
  have HA := Lib.hid hA
  have hC := fun W h => anyWrongVec (some ⟨b, off, none⟩) n c f W h hn200
  have HV := Lib.hid hv
  rw [hv] at hC
  have HC := Lib.hid hC
  clear hA hC hv
  go_enter Tryd.func22, Tryd.ntmps22
  go_wp2_with fail
  (go_at_call 11; with_reducible refine (HW.out _ (HP.out.keep (by repeat (first | with_reducible exact Gr.refl _ | with_reducible refine Gr.alloc ?_ _ | with_reducible refine Gr.drew ?_ | with_reducible refine Gr.trans ?_ (by assumption) | with_reducible refine Gr.setCell ?_ (by (try simp); (try omega)) _)))).mono ?_; rintro e w' ⟨rfl, hb⟩; have hz := hb.le; obtain ⟨hc, hf⟩ := hb.cells; have hn := hb.cellsN; (try simp only [World.size_alloc] at hc hf hz hn); (try simp only [World.size_setCell] at hc hf hz hn); (try simp only [World.size_drew] at hc hf hz hn))
  have hG := show Gr w w' from (by repeat (first | with_reducible exact Gr.refl _ | with_reducible refine Gr.alloc ?_ _ | with_reducible refine Gr.drew ?_ | with_reducible refine Gr.trans ?_ (by assumption) | with_reducible refine Gr.setCell ?_ (by (try simp); (try omega)) _))
  have hvb : w'.cell? ⟨w.heap.size, 0, none⟩ = some (.int .i64 l0) ∧ w'.cell? ⟨w.heap.size, 1, none⟩ = some (.int .i64 l1) ∧ w'.cell? ⟨w.heap.size, 2, none⟩ = some (.int .i64 l2) ∧ w'.cell? ⟨w.heap.size, 3, none⟩ = some (.int .i64 l3) ∧ w'.cell? ⟨w.heap.size, 4, none⟩ = some (.int .i64 l4) ∧ w'.cell? ⟨w.heap.size, 5, none⟩ = some (.int .i64 l5) ∧ w'.cell? ⟨w.heap.size, 6, none⟩ = some (.int .i64 h0) ∧ w'.cell? ⟨w.heap.size, 7, none⟩ = some (.int .i64 h1) ∧ w'.cell? ⟨w.heap.size, 8, none⟩ = some (.int .i64 h2) ∧ w'.cell? ⟨w.heap.size, 9, none⟩ = some (.int .i64 h3) ∧ w'.cell? ⟨w.heap.size, 10, none⟩ = some (.int .i64 h4) ∧ w'.cell? ⟨w.heap.size, 11, none⟩ = some (.int .i64 h5) ∧ w'.cell? ⟨w.heap.size, 12, none⟩ = some (.int .i64 st) ∧ w'.cell? ⟨w.heap.size, 13, none⟩ = some (.int .i64 br) := ⟨by simp [go_sem, *], by simp [go_sem, *], by simp [go_sem, *], by simp [go_sem, *], by simp [go_sem, *], by simp [go_sem, *], by simp [go_sem, *], by simp [go_sem, *], by simp [go_sem, *], by simp [go_sem, *], by simp [go_sem, *], by simp [go_sem, *], by simp [go_sem, *], by simp [go_sem, *]⟩
  have hzW : w.heap.size < w'.heap.size := by omega
  have HG := Lib.hid hG
  have HVB := Lib.hid hvb
  clear hz hG hvb hb hc
  obtain ⟨W0, rfl⟩ : ∃ W0 : World, W0 = w' := ⟨_, rfl⟩
  go_wp2_with fail
  go_at_call 41
  refine (HC.out _ (HA.out.keep HG.out)).mono ?_
  rintro e w2 ⟨rfl, hb2⟩
  have HG2 := Lib.hid (HG.out.trans hb2)
  have hvb2 : w2.cell? ⟨w.heap.size, 0, none⟩ = some (.int .i64 l0) ∧ w2.cell? ⟨w.heap.size, 1, none⟩ = some (.int .i64 l1) ∧ w2.cell? ⟨w.heap.size, 2, none⟩ = some (.int .i64 l2) ∧ w2.cell? ⟨w.heap.size, 3, none⟩ = some (.int .i64 l3) ∧ w2.cell? ⟨w.heap.size, 4, none⟩ = some (.int .i64 l4) ∧ w2.cell? ⟨w.heap.size, 5, none⟩ = some (.int .i64 l5) ∧ w2.cell? ⟨w.heap.size, 6, none⟩ = some (.int .i64 h0) ∧ w2.cell? ⟨w.heap.size, 7, none⟩ = some (.int .i64 h1) ∧ w2.cell? ⟨w.heap.size, 8, none⟩ = some (.int .i64 h2) ∧ w2.cell? ⟨w.heap.size, 9, none⟩ = some (.int .i64 h3) ∧ w2.cell? ⟨w.heap.size, 10, none⟩ = some (.int .i64 h4) ∧ w2.cell? ⟨w.heap.size, 11, none⟩ = some (.int .i64 h5) ∧ w2.cell? ⟨w.heap.size, 12, none⟩ = some (.int .i64 st) ∧ w2.cell? ⟨w.heap.size, 13, none⟩ = some (.int .i64 br) := by
    obtain ⟨a0, a1, a2, a3, a4, a5, a6, a7, a8, a9, a10, a11, a12, a13⟩ := HVB.out
    exact ⟨(Below.cell (p := ⟨w.heap.size, 0, none⟩) hb2 hzW).trans a0, (Below.cell (p := ⟨w.heap.size, 1, none⟩) hb2 hzW).trans a1, (Below.cell (p := ⟨w.heap.size, 2, none⟩) hb2 hzW).trans a2, (Below.cell (p := ⟨w.heap.size, 3, none⟩) hb2 hzW).trans a3, (Below.cell (p := ⟨w.heap.size, 4, none⟩) hb2 hzW).trans a4, (Below.cell (p := ⟨w.heap.size, 5, none⟩) hb2 hzW).trans a5, (Below.cell (p := ⟨w.heap.size, 6, none⟩) hb2 hzW).trans a6, (Below.cell (p := ⟨w.heap.size, 7, none⟩) hb2 hzW).trans a7, (Below.cell (p := ⟨w.heap.size, 8, none⟩) hb2 hzW).trans a8, (Below.cell (p := ⟨w.heap.size, 9, none⟩) hb2 hzW).trans a9, (Below.cell (p := ⟨w.heap.size, 10, none⟩) hb2 hzW).trans a10, (Below.cell (p := ⟨w.heap.size, 11, none⟩) hb2 hzW).trans a11, (Below.cell (p := ⟨w.heap.size, 12, none⟩) hb2 hzW).trans a12, (Below.cell (p := ⟨w.heap.size, 13, none⟩) hb2 hzW).trans a13⟩
  obtain ⟨a0, a1, a2, a3, a4, a5, a6, a7, a8, a9, a10, a11, a12, a13⟩ := hvb2
  have hzW2 : w.heap.size < w2.heap.size := by have := hb2.le; omega
  clear hb2
  go_upto_region 5 with fail
  have hGq : Gr w2 (w2.alloc (.cells #[.int .i64 l0, .int .i64 l1, .int .i64 l2, .int .i64 l3, .int .i64 l4, .int .i64 l5, .int .i64 h0, .int .i64 h1, .int .i64 h2, .int .i64 h3, .int .i64 h4, .int .i64 h5, .int .i64 st, .int .i64 br, .slice (some ⟨b, off, none⟩) n c] 61)) := (Gr.refl _).alloc _
  have hr := (HA.out.keep (HG2.out.trans hGq)).six ht
  obtain ⟨b', off', hbo, hbq, z0, z1, z2, z3, z4, z5⟩ := hr
  cases hbo
  have x_ : (w2.alloc (.cells #[.int .i64 l0, .int .i64 l1, .int .i64 l2, .int .i64 l3, .int .i64 l4, .int .i64 l5, .int .i64 h0, .int .i64 h1, .int .i64 h2, .int .i64 h3, .int .i64 h4, .int .i64 h5, .int .i64 st, .int .i64 br, .slice (some ⟨b, off, none⟩) n c] 61)).cell? ⟨w2.heap.size, 0, none⟩ = some (.int .i64 l0) ∧ (w2.alloc (.cells #[.int .i64 l0, .int .i64 l1, .int .i64 l2, .int .i64 l3, .int .i64 l4, .int .i64 l5, .int .i64 h0, .int .i64 h1, .int .i64 h2, .int .i64 h3, .int .i64 h4, .int .i64 h5, .int .i64 st, .int .i64 br, .slice (some ⟨b, off, none⟩) n c] 61)).cell? ⟨w2.heap.size, 1, none⟩ = some (.int .i64 l1) ∧ (w2.alloc (.cells #[.int .i64 l0, .int .i64 l1, .int .i64 l2, .int .i64 l3, .int .i64 l4, .int .i64 l5, .int .i64 h0, .int .i64 h1, .int .i64 h2, .int .i64 h3, .int .i64 h4, .int .i64 h5, .int .i64 st, .int .i64 br, .slice (some ⟨b, off, none⟩) n c] 61)).cell? ⟨w2.heap.size, 2, none⟩ = some (.int .i64 l2) ∧ (w2.alloc (.cells #[.int .i64 l0, .int .i64 l1, .int .i64 l2, .int .i64 l3, .int .i64 l4, .int .i64 l5, .int .i64 h0, .int .i64 h1, .int .i64 h2, .int .i64 h3, .int .i64 h4, .int .i64 h5, .int .i64 st, .int .i64 br, .slice (some ⟨b, off, none⟩) n c] 61)).cell? ⟨w2.heap.size, 3, none⟩ = some (.int .i64 l3) ∧ (w2.alloc (.cells #[.int .i64 l0, .int .i64 l1, .int .i64 l2, .int .i64 l3, .int .i64 l4, .int .i64 l5, .int .i64 h0, .int .i64 h1, .int .i64 h2, .int .i64 h3, .int .i64 h4, .int .i64 h5, .int .i64 st, .int .i64 br, .slice (some ⟨b, off, none⟩) n c] 61)).cell? ⟨w2.heap.size, 4, none⟩ = some (.int .i64 l4) ∧ (w2.alloc (.cells #[.int .i64 l0, .int .i64 l1, .int .i64 l2, .int .i64 l3, .int .i64 l4, .int .i64 l5, .int .i64 h0, .int .i64 h1, .int .i64 h2, .int .i64 h3, .int .i64 h4, .int .i64 h5, .int .i64 st, .int .i64 br, .slice (some ⟨b, off, none⟩) n c] 61)).cell? ⟨w2.heap.size, 5, none⟩ = some (.int .i64 l5) ∧ (w2.alloc (.cells #[.int .i64 l0, .int .i64 l1, .int .i64 l2, .int .i64 l3, .int .i64 l4, .int .i64 l5, .int .i64 h0, .int .i64 h1, .int .i64 h2, .int .i64 h3, .int .i64 h4, .int .i64 h5, .int .i64 st, .int .i64 br, .slice (some ⟨b, off, none⟩) n c] 61)).cell? ⟨w2.heap.size, 6, none⟩ = some (.int .i64 h0) ∧ (w2.alloc (.cells #[.int .i64 l0, .int .i64 l1, .int .i64 l2, .int .i64 l3, .int .i64 l4, .int .i64 l5, .int .i64 h0, .int .i64 h1, .int .i64 h2, .int .i64 h3, .int .i64 h4, .int .i64 h5, .int .i64 st, .int .i64 br, .slice (some ⟨b, off, none⟩) n c] 61)).cell? ⟨w2.heap.size, 7, none⟩ = some (.int .i64 h1) ∧ (w2.alloc (.cells #[.int .i64 l0, .int .i64 l1, .int .i64 l2, .int .i64 l3, .int .i64 l4, .int .i64 l5, .int .i64 h0, .int .i64 h1, .int .i64 h2, .int .i64 h3, .int .i64 h4, .int .i64 h5, .int .i64 st, .int .i64 br, .slice (some ⟨b, off, none⟩) n c] 61)).cell? ⟨w2.heap.size, 8, none⟩ = some (.int .i64 h2) ∧ (w2.alloc (.cells #[.int .i64 l0, .int .i64 l1, .int .i64 l2, .int .i64 l3, .int .i64 l4, .int .i64 l5, .int .i64 h0, .int .i64 h1, .int .i64 h2, .int .i64 h3, .int .i64 h4, .int .i64 h5, .int .i64 st, .int .i64 br, .slice (some ⟨b, off, none⟩) n c] 61)).cell? ⟨w2.heap.size, 9, none⟩ = some (.int .i64 h3) ∧ (w2.alloc (.cells #[.int .i64 l0, .int .i64 l1, .int .i64 l2, .int .i64 l3, .int .i64 l4, .int .i64 l5, .int .i64 h0, .int .i64 h1, .int .i64 h2, .int .i64 h3, .int .i64 h4, .int .i64 h5, .int .i64 st, .int .i64 br, .slice (some ⟨b, off, none⟩) n c] 61)).cell? ⟨w2.heap.size, 10, none⟩ = some (.int .i64 h4) ∧ (w2.alloc (.cells #[.int .i64 l0, .int .i64 l1, .int .i64 l2, .int .i64 l3, .int .i64 l4, .int .i64 l5, .int .i64 h0, .int .i64 h1, .int .i64 h2, .int .i64 h3, .int .i64 h4, .int .i64 h5, .int .i64 st, .int .i64 br, .slice (some ⟨b, off, none⟩) n c] 61)).cell? ⟨w2.heap.size, 11, none⟩ = some (.int .i64 h5) ∧ (w2.alloc (.cells #[.int .i64 l0, .int .i64 l1, .int .i64 l2, .int .i64 l3, .int .i64 l4, .int .i64 l5, .int .i64 h0, .int .i64 h1, .int .i64 h2, .int .i64 h3, .int .i64 h4, .int .i64 h5, .int .i64 st, .int .i64 br, .slice (some ⟨b, off, none⟩) n c] 61)).cell? ⟨w2.heap.size, 12, none⟩ = some (.int .i64 st) ∧ (w2.alloc (.cells #[.int .i64 l0, .int .i64 l1, .int .i64 l2, .int .i64 l3, .int .i64 l4, .int .i64 l5, .int .i64 h0, .int .i64 h1, .int .i64 h2, .int .i64 h3, .int .i64 h4, .int .i64 h5, .int .i64 st, .int .i64 br, .slice (some ⟨b, off, none⟩) n c] 61)).cell? ⟨w2.heap.size, 13, none⟩ = some (.int .i64 br) ∧ (w2.alloc (.cells #[.int .i64 l0, .int .i64 l1, .int .i64 l2, .int .i64 l3, .int .i64 l4, .int .i64 l5, .int .i64 h0, .int .i64 h1, .int .i64 h2, .int .i64 h3, .int .i64 h4, .int .i64 h5, .int .i64 st, .int .i64 br, .slice (some ⟨b, off, none⟩) n c] 61)).cell? ⟨w2.heap.size, 14, none⟩ = some (.slice (some ⟨b, off, none⟩) n c) := ⟨by simp [go_sem], by simp [go_sem], by simp [go_sem], by simp [go_sem], by simp [go_sem], by simp [go_sem], by simp [go_sem], by simp [go_sem], by simp [go_sem], by simp [go_sem], by simp [go_sem], by simp [go_sem], by simp [go_sem], by simp [go_sem], by simp [go_sem]⟩
  have hzq : w2.heap.size < (w2.alloc (.cells #[.int .i64 l0, .int .i64 l1, .int .i64 l2, .int .i64 l3, .int .i64 l4, .int .i64 l5, .int .i64 h0, .int .i64 h1, .int .i64 h2, .int .i64 h3, .int .i64 h4, .int .i64 h5, .int .i64 st, .int .i64 br, .slice (some ⟨b, off, none⟩) n c] 61)).heap.size := by simp
  have HG3 := Lib.hid (HG2.out.trans hGq)
  clear a0 a1 a2 a3 a4 a5 a6 a7 a8 a9 a10 a11 a12 a13 hGq
  generalize w2.alloc (.cells #[.int .i64 l0, .int .i64 l1, .int .i64 l2, .int .i64 l3, .int .i64 l4, .int .i64 l5, .int .i64 h0, .int .i64 h1, .int .i64 h2, .int .i64 h3, .int .i64 h4, .int .i64 h5, .int .i64 st, .int .i64 br, .slice (some ⟨b, off, none⟩) n c] 61) = Wq at *
  generalize w2.heap.size = BS at *
  have HX := Lib.hid x_
  obtain ⟨x0, x1, x2, x3, x4, x5, x6, x7, x8, x9, x10, x11, x12, x13, x14⟩ := x_
  rcases tf (hasB ⟨l0, l1, l2, l3, l4, l5⟩ ⟨h0, h1, h2, h3, h4, h5⟩ ⟨f tz 0, f tz 1, f tz 2, f tz 3, f tz 4, f tz 5⟩) with hh | hh
  · simp only [hh] at hH
    have HH := Lib.hid hH; have HHB := Lib.hid hh
    clear hH hh
    refine wp_region_held_drew (S := fun wx => (∀ b o, (⟨min (b + 1) Wq.heap.size, 0, none⟩ : Addr) = ⟨b + 1, 0, none⟩ → wx.cell? ⟨b, o, none⟩ = Wq.cell? ⟨b, o, none⟩) ∧ Gr Wq wx) (by kernel_rfl) (held_drew Wq) (fun hHeld => ?_)
    first | (refine take_at (i := 0) (oi := _) (d := some 52) (v := undef) rfl rfl (by kernel_rfl) (by kernel_rfl) (by kernel_rfl) (fun _ _ _ h => h) (Or.inr ⟨by rfl, rfl⟩) hHeld ?_) | (refine take_at (i := 0) (oi := _) (d := some 52) (v := ?_) rfl rfl (by kernel_rfl) (by kernel_rfl) (by kernel_rfl) (fun _ _ _ h => h) (Or.inl ⟨by rfl, ?_⟩) hHeld ?_; rotate_left; next => (intro w hSw; (try dsimp only at hSw); go_simp; try with_reducible rfl))
    try simp only [Act.put, List.setIfInBounds_toArray, List.set_cons_zero, List.set_cons_succ]
    first | (refine take_at (i := 1) (oi := _) (d := some 53) (v := undef) rfl rfl (by kernel_rfl) (by kernel_rfl) (by kernel_rfl) (fun _ _ _ h => h) (Or.inr ⟨by rfl, rfl⟩) hHeld ?_) | (refine take_at (i := 1) (oi := _) (d := some 53) (v := ?_) rfl rfl (by kernel_rfl) (by kernel_rfl) (by kernel_rfl) (fun _ _ _ h => h) (Or.inl ⟨by rfl, ?_⟩) hHeld ?_; rotate_left; next => (intro w hSw; (try dsimp only at hSw); go_simp; try with_reducible rfl))
    try simp only [Act.put, List.setIfInBounds_toArray, List.set_cons_zero, List.set_cons_succ]
    first | (refine take_at (i := 2) (oi := _) (d := some 54) (v := undef) rfl rfl (by kernel_rfl) (by kernel_rfl) (by kernel_rfl) (fun _ _ _ h => h) (Or.inr ⟨by rfl, rfl⟩) hHeld ?_) | (refine take_at (i := 2) (oi := _) (d := some 54) (v := ?_) rfl rfl (by kernel_rfl) (by kernel_rfl) (by kernel_rfl) (fun _ _ _ h => h) (Or.inl ⟨by rfl, ?_⟩) hHeld ?_; rotate_left; next => (intro w hSw; (try dsimp only at hSw); go_simp; try with_reducible rfl))
    try simp only [Act.put, List.setIfInBounds_toArray, List.set_cons_zero, List.set_cons_succ]
    first | (refine take_at (i := 3) (oi := _) (d := some 55) (v := undef) rfl rfl (by kernel_rfl) (by kernel_rfl) (by kernel_rfl) (fun _ _ _ h => h) (Or.inr ⟨by rfl, rfl⟩) hHeld ?_) | (refine take_at (i := 3) (oi := _) (d := some 55) (v := ?_) rfl rfl (by kernel_rfl) (by kernel_rfl) (by kernel_rfl) (fun _ _ _ h => h) (Or.inl ⟨by rfl, ?_⟩) hHeld ?_; rotate_left; next => (intro w hSw; (try dsimp only at hSw); go_simp; try with_reducible rfl))
    try simp only [Act.put, List.setIfInBounds_toArray, List.set_cons_zero, List.set_cons_succ]
    first | (refine take_at (i := 4) (oi := _) (d := some 56) (v := undef) rfl rfl (by kernel_rfl) (by kernel_rfl) (by kernel_rfl) (fun _ _ _ h => h) (Or.inr ⟨by rfl, rfl⟩) hHeld ?_) | (refine take_at (i := 4) (oi := _) (d := some 56) (v := ?_) rfl rfl (by kernel_rfl) (by kernel_rfl) (by kernel_rfl) (fun _ _ _ h => h) (Or.inl ⟨by rfl, ?_⟩) hHeld ?_; rotate_left; next => (intro w hSw; (try dsimp only at hSw); go_simp; try with_reducible rfl))
    try simp only [Act.put, List.setIfInBounds_toArray, List.set_cons_zero, List.set_cons_succ]
    first | (refine take_at (i := 5) (oi := _) (d := some 57) (v := undef) rfl rfl (by kernel_rfl) (by kernel_rfl) (by kernel_rfl) (fun _ _ _ h => h) (Or.inr ⟨by rfl, rfl⟩) hHeld ?_) | (refine wpAnyH_ready (rs := [5]) (by kernel_rfl) (by simp) (AllReadyH.cons (o := _) rfl (fun K hK => ?_) AllReadyH.nil); go_simp; go_at_call 33; refine (HH.out _ (HP.out.keep (HG3.out.trans hHeld.2))).mono ?_; rintro e w' ⟨rfl, hb⟩; refine hK.out _ _ (held_call hHeld hb) (fun hHeld => ?_); clear hK K hb)
    try simp only [Act.put, List.setIfInBounds_toArray, List.set_cons_zero, List.set_cons_succ]
    first | (refine take_at (i := 6) (oi := _) (d := some 58) (v := undef) rfl rfl (by kernel_rfl) (by kernel_rfl) (by kernel_rfl) (fun _ _ _ h => h) (Or.inr ⟨by rfl, rfl⟩) hHeld ?_) | (refine take_at (i := 6) (oi := _) (d := some 58) (v := ?_) rfl rfl (by kernel_rfl) (by kernel_rfl) (by kernel_rfl) (fun _ _ _ h => h) (Or.inl ⟨by rfl, ?_⟩) hHeld ?_; rotate_left; next => (intro w hSw; (try dsimp only at hSw); go_simp; try with_reducible rfl))
    try simp only [Act.put, List.setIfInBounds_toArray, List.set_cons_zero, List.set_cons_succ]
    refine wpAnyH_done (by kernel_rfl) ?_ _

    go_wp2_with fail
    have hGa := HG3.out.trans hHeld.2
    have hGb : Gr w (w'.alloc (.cells #[(.func (.func 42) #[.agg #[.int .i64 l0, .int .i64 l1, .int .i64 l2, .int .i64 l3, .int .i64 l4, .int .i64 l5, .int .i64 h0, .int .i64 h1, .int .i64 h2, .int .i64 h3, .int .i64 h4, .int .i64 h5, .int .i64 st, .int .i64 br, .slice (some ⟨b, off, none⟩) n c]] #[])] 71)) := hGa.alloc _
    have HGB := Lib.hid hGb
    refine (distances_any (.agg #[.int .i64 l0, .int .i64 l1, .int .i64 l2, .int .i64 l3, .int .i64 l4, .int .i64 l5, .int .i64 h0, .int .i64 h1, .int .i64 h2, .int .i64 h3, .int .i64 h4, .int .i64 h5, .int .i64 st, .int .i64 br, .slice (some ⟨b, off, none⟩) n c]) (joinB ⟨l0, l1, l2, l3, l4, l5⟩ ⟨h0, h1, h2, h3, h4, h5⟩ st f) n tz _ ht hn200 (fun W g i k hi hk => HJ.out W (HGB.out.trans g) i k hi hk)).mono ?_
    rintro e w4 ⟨F, far, rfl, hrow, hfar, hbd, hF, hg4⟩
    have c3 : w4.cell? ⟨w'.heap.size, 0, none⟩ = some (.func (.func 42) #[.agg #[.int .i64 l0, .int .i64 l1, .int .i64 l2, .int .i64 l3, .int .i64 l4, .int .i64 l5, .int .i64 h0, .int .i64 h1, .int .i64 h2, .int .i64 h3, .int .i64 h4, .int .i64 h5, .int .i64 st, .int .i64 br, .slice (some ⟨b, off, none⟩) n c]] #[]) := (Below.cell (p := ⟨w'.heap.size, 0, none⟩) hg4 (by simp)).trans (by simp [go_sem])
    have l3 : w'.heap.size < w4.heap.size := by have := hg4.le; simp at this; omega
    have cF := hrow.cell fr hfr
    have lF := hrow.lt
    have HG4 := Lib.hid (HGB.out.trans hg4)
    have HROW := Lib.hid hrow; have HFAR := Lib.hid hfar; have HBD := Lib.hid hbd
    have hHeld2 := hHeld.2.le
    clear hHeld hGa hGb hg4 hrow hfar hbd HX x0 x1 x2 x3 x4 x5 x6 x7 x8 x9 x10 x11 x12 x13 x14 z0 z1 z2 z3 z4 z5
    generalize w'.heap.size = B3 at *
    by_cases hneg : far fr < 0
    · go_wp2_with fail
      go_ret2
      exact ⟨HG4.out.trans (by repeat (first | with_reducible exact Gr.refl _ | with_reducible refine Gr.alloc ?_ _ | with_reducible refine Gr.drew ?_ | with_reducible refine Gr.trans ?_ (by assumption) | with_reducible refine Gr.setCell ?_ (by (try simp); (try omega)) _)), Or.inr ⟨HHB.out, far, HFAR.out, HBD.out, Or.inl ⟨hneg, rfl⟩⟩⟩
    · have hfz : 0 ≤ far fr := by omega
      clear hneg
      go_upto_region 11 with fail
      have hW5 : Gr w4 (w4.alloc (.cells #[.slice (some ⟨F, 0, none⟩) n n] 27)) := (Gr.refl _).alloc _
      have c1 : (w4.alloc (.cells #[.slice (some ⟨F, 0, none⟩) n n] 27)).cell? ⟨w4.heap.size, 0, none⟩ = some (.slice (some ⟨F, 0, none⟩) n n) := by simp [go_sem]
      have m1 : w4.heap.size < (w4.alloc (.cells #[.slice (some ⟨F, 0, none⟩) n n] 27)).heap.size := by simp
      generalize w4.alloc (.cells #[.slice (some ⟨F, 0, none⟩) n n] 27) = W5 at *
      have c3' := (Below.cell (p := ⟨B3, 0, none⟩) hW5 l3).trans c3
      have HR5 := Lib.hid (HROW.out.keep hW5)
      have HG5 := Lib.hid (HG4.out.trans hW5)
      have m3 : B3 < W5.heap.size := by omega
      have mF : F < W5.heap.size := by omega
      have HC1 := Lib.hid c1; have HC3 := Lib.hid c3'
      clear hW5 c3 cF l3 lF c1 c3'
      generalize w4.heap.size = B1 at *
      have HWS := Lib.hid (ws_start (S := .agg #[.int .i64 l0, .int .i64 l1, .int .i64 l2, .int .i64 l3, .int .i64 l4, .int .i64 l5, .int .i64 h0, .int .i64 h1, .int .i64 h2, .int .i64 h3, .int .i64 h4, .int .i64 h5, .int .i64 st, .int .i64 br, .slice (some ⟨b, off, none⟩) n c]) (J := joinB ⟨l0, l1, l2, l3, l4, l5⟩ ⟨h0, h1, h2, h3, h4, h5⟩ st f) (n := n) (fr := fr) (F := F) (B1 := B1) (B3 := B3) (far := far) W5)
      go_wp2_with fail
      go_loopw [14, 15] (fun ov pv wr => ∃ (LV : Value) (l : List Nat) (a B2 : Nat), LV = ov ∧ pv = .pointer (some ⟨B2, 0, none⟩) ∧ WS (.agg #[.int .i64 l0, .int .i64 l1, .int .i64 l2, .int .i64 l3, .int .i64 l4, .int .i64 l5, .int .i64 h0, .int .i64 h1, .int .i64 h2, .int .i64 h3, .int .i64 h4, .int .i64 h5, .int .i64 st, .int .i64 br, .slice (some ⟨b, off, none⟩) n c]) (joinB ⟨l0, l1, l2, l3, l4, l5⟩ ⟨h0, h1, h2, h3, h4, h5⟩ st f) n fr F B1 B3 W5.heap.size far W5 l a LV B2 wr) (fun _ pv wr => goM far pv wr)
      case atStart => exact ⟨_, [fr], fr, _, rfl, rfl, HWS.out⟩
      case round =>
        obtain ⟨ov, l, a, B2, rfl, rfl, hws⟩ := hrel
        obtain ⟨han, hlen, ha0⟩ := hws.path.facts hfr hfz
        have hcap := hws.cap m1 m3 mF HC1.out HC3.out HR5.out
        have y1 := hcap.c1; have y2 := hcap.c2; have yF := hcap.row.cell a han
        have v1 := hcap.l1; have v2 := hcap.l2; have vF := hcap.row.lt
        have hbda := HBD.out a han; have hbdf := HBD.out fr hfr
        have HWS2 := Lib.hid hws; have HCAP := Lib.hid hcap
        clear HWS
        by_cases hp : 0 < far a
        · clear hws hcap
          obtain ⟨wo, rfl⟩ : ∃ wp : World, wp = wr := ⟨_, rfl⟩
          go_wp2_with fail
          refine (indices_any n hn200 _).mono ?_
          rintro e w6 ⟨rfl, hri, hg6⟩
          have HRI := Lib.hid hri
          have HG6 := Lib.hid hg6
          have HGO := Lib.hid (HWS2.out.own.toGr HG5.out (Nat.le_refl _))
          have HNX := Lib.hid (idxNext (nextB (joinB ⟨l0, l1, l2, l3, l4, l5⟩ ⟨h0, h1, h2, h3, h4, h5⟩ st f) far a) _ n n _ B1 B2 B3 w6 hri.ints hn200 rfl (fun W g k hk => next_any (.agg #[.int .i64 l0, .int .i64 l1, .int .i64 l2, .int .i64 l3, .int .i64 l4, .int .i64 l5, .int .i64 h0, .int .i64 h1, .int .i64 h2, .int .i64 h3, .int .i64 h4, .int .i64 h5, .int .i64 st, .int .i64 br, .slice (some ⟨b, off, none⟩) n c]) (joinB ⟨l0, l1, l2, l3, l4, l5⟩ ⟨h0, h1, h2, h3, h4, h5⟩ st f) n F B1 B2 B3 a k far W (HCAP.out.keep (HG6.out.trans g)) han hk (by omega) (by omega) (fun W' g' => HJ.out W' (HGO.out.trans (HG6.out.trans (g.trans g'))) a k han hk)))
          clear hri hg6
          go_wp2_with fail
          go_at_call 44
          refine HNX.out.mono ?_
          rintro e w7 ⟨r, rfl, hr, hg7⟩
          have HG7 := Lib.hid (HG6.out.trans hg7)
          have hk : ∃ k : Nat, k < n ∧ nextB (joinB ⟨l0, l1, l2, l3, l4, l5⟩ ⟨h0, h1, h2, h3, h4, h5⟩ st f) far a k = true ∧ (∀ j, j < k → nextB (joinB ⟨l0, l1, l2, l3, l4, l5⟩ ⟨h0, h1, h2, h3, h4, h5⟩ st f) far a j = false) ∧ r = (k : Int) := by
            rcases hr with h | ⟨h, _⟩
            · exact h
            · obtain ⟨k, hk, hnk⟩ := next_is HFAR.out han hp
              rw [h k hk] at hnk; cases hnk
          obtain ⟨k, hkn, hnk, hmk, rfl⟩ := hk
          have y2' := (Below.cell (p := ⟨B2, 0, none⟩) HG7.out v2).trans y2
          have f2' := (Below.frozen (p := ⟨B2, 0, none⟩) HG7.out v2).trans HWS2.out.f2
          have HO := Lib.hid (HWS2.out.step HG7.out k).own
          have hz7 : B2 < w7.heap.size := Nat.lt_of_lt_of_le v2 HG7.out.size
          have HSZ := Lib.hid (show W5.heap.size ≤ (stepW w7 B2 k).heap.size from (HWS2.out.step HG7.out k).size)
          have HN := Lib.hid (step_new w7 B2 k)
          have HNK := Lib.hid hnk; have HMK := Lib.hid hmk
          have hll : l.length ≤ 201 := by omega
          obtain ⟨i0, hi, hz0, hz1, hz2⟩ := info_parts infoI
          have HI := Lib.hid (And.intro hi (And.intro hz0 (And.intro hz1 hz2)))
          clear hr hg7 hnk hmk hi hz0 hz1 hz2 y1 y2 yF
          go_wp2_with (at_builtin; refine wpList_append_lies _ rfl (.tmp 79) (.tmp 81) 27 rfl W5.heap.size 3 i0 (.int .i64 0) 1 8 Tryd.underlying27 HI.out.1 HI.out.2.1 HI.out.2.2.1 HI.out.2.2.2 rfl (by decide) ov l.length _ rfl HO.out ⟨w7.heap.size + 1, 0, none⟩ 1 1 [.int .i64 (k : Int)] rfl rfl HN.out (by simp [Value.oneCell']) (by decide) (by simp only [maxLen]; omega) (by omega) HSZ.out _ rfl ?_; intro g' cap' w9 hown hgrow hat hlt; have HNEW := Lib.hid (HWS2.out.next HG7.out hp hkn HNK.out HMK.out hown hgrow hat); clear hown hgrow hat hlt)
          go_roundw
          case rel => exact ⟨_, l ++ [k], k, _, rfl, rfl, HNEW.out⟩
          case measure =>
            have e1 := goM_is (far := far) HNEW.out.c2
            have e2 := goM_is (far := far) HWS2.out.c2
            have h5 := HNK.out
            simp only [nextB, Bool.and_eq_true, decide_eq_true_eq] at h5
            simp only [e1, e2]
            omega
        · have hz : far a = 0 := by omega
          obtain ⟨g, cap, hov, -, -⟩ := hws.own.own.form (by omega)
          subst hov
          clear hws hcap
          obtain ⟨wo, rfl⟩ : ∃ wp : World, wp = wr := ⟨_, rfl⟩
          go_wp2_with fail
          go_ret2
          exact ⟨HWS2.out.own.toGr HG5.out (Nat.le_refl _), Or.inr ⟨HHB.out, far, HFAR.out, HBD.out, Or.inr ⟨hfz, l, _, ⟨a, HWS2.out.path, hz⟩, rfl, ⟨HWS2.out.own.own.1, HWS2.out.own.own.2.imp id fun ⟨g, cap, cur, e1, e2, e3⟩ => ⟨g, cap, cur, e1, Nat.le_trans HG5.out.size e2, e3⟩⟩⟩⟩⟩
  · simp only [hh] at hH
    have HH := Lib.hid hH; have HHB := Lib.hid hh
    clear hH hh
    refine wp_region_held_drew (S := fun wx => (∀ b o, (⟨min (b + 1) Wq.heap.size, 0, none⟩ : Addr) = ⟨b + 1, 0, none⟩ → wx.cell? ⟨b, o, none⟩ = Wq.cell? ⟨b, o, none⟩) ∧ Gr Wq wx) (by kernel_rfl) (held_drew Wq) (fun hHeld => ?_)
    first | (refine take_at (i := 0) (oi := _) (d := some 52) (v := undef) rfl rfl (by kernel_rfl) (by kernel_rfl) (by kernel_rfl) (fun _ _ _ h => h) (Or.inr ⟨by rfl, rfl⟩) hHeld ?_) | (refine take_at (i := 0) (oi := _) (d := some 52) (v := ?_) rfl rfl (by kernel_rfl) (by kernel_rfl) (by kernel_rfl) (fun _ _ _ h => h) (Or.inl ⟨by rfl, ?_⟩) hHeld ?_; rotate_left; next => (intro w hSw; (try dsimp only at hSw); go_simp; try with_reducible rfl))
    try simp only [Act.put, List.setIfInBounds_toArray, List.set_cons_zero, List.set_cons_succ]
    first | (refine take_at (i := 1) (oi := _) (d := some 53) (v := undef) rfl rfl (by kernel_rfl) (by kernel_rfl) (by kernel_rfl) (fun _ _ _ h => h) (Or.inr ⟨by rfl, rfl⟩) hHeld ?_) | (refine take_at (i := 1) (oi := _) (d := some 53) (v := ?_) rfl rfl (by kernel_rfl) (by kernel_rfl) (by kernel_rfl) (fun _ _ _ h => h) (Or.inl ⟨by rfl, ?_⟩) hHeld ?_; rotate_left; next => (intro w hSw; (try dsimp only at hSw); go_simp; try with_reducible rfl))
    try simp only [Act.put, List.setIfInBounds_toArray, List.set_cons_zero, List.set_cons_succ]
    first | (refine take_at (i := 2) (oi := _) (d := some 54) (v := undef) rfl rfl (by kernel_rfl) (by kernel_rfl) (by kernel_rfl) (fun _ _ _ h => h) (Or.inr ⟨by rfl, rfl⟩) hHeld ?_) | (refine take_at (i := 2) (oi := _) (d := some 54) (v := ?_) rfl rfl (by kernel_rfl) (by kernel_rfl) (by kernel_rfl) (fun _ _ _ h => h) (Or.inl ⟨by rfl, ?_⟩) hHeld ?_; rotate_left; next => (intro w hSw; (try dsimp only at hSw); go_simp; try with_reducible rfl))
    try simp only [Act.put, List.setIfInBounds_toArray, List.set_cons_zero, List.set_cons_succ]
    first | (refine take_at (i := 3) (oi := _) (d := some 55) (v := undef) rfl rfl (by kernel_rfl) (by kernel_rfl) (by kernel_rfl) (fun _ _ _ h => h) (Or.inr ⟨by rfl, rfl⟩) hHeld ?_) | (refine take_at (i := 3) (oi := _) (d := some 55) (v := ?_) rfl rfl (by kernel_rfl) (by kernel_rfl) (by kernel_rfl) (fun _ _ _ h => h) (Or.inl ⟨by rfl, ?_⟩) hHeld ?_; rotate_left; next => (intro w hSw; (try dsimp only at hSw); go_simp; try with_reducible rfl))
    try simp only [Act.put, List.setIfInBounds_toArray, List.set_cons_zero, List.set_cons_succ]
    first | (refine take_at (i := 4) (oi := _) (d := some 56) (v := undef) rfl rfl (by kernel_rfl) (by kernel_rfl) (by kernel_rfl) (fun _ _ _ h => h) (Or.inr ⟨by rfl, rfl⟩) hHeld ?_) | (refine take_at (i := 4) (oi := _) (d := some 56) (v := ?_) rfl rfl (by kernel_rfl) (by kernel_rfl) (by kernel_rfl) (fun _ _ _ h => h) (Or.inl ⟨by rfl, ?_⟩) hHeld ?_; rotate_left; next => (intro w hSw; (try dsimp only at hSw); go_simp; try with_reducible rfl))
    try simp only [Act.put, List.setIfInBounds_toArray, List.set_cons_zero, List.set_cons_succ]
    first | (refine take_at (i := 5) (oi := _) (d := some 57) (v := undef) rfl rfl (by kernel_rfl) (by kernel_rfl) (by kernel_rfl) (fun _ _ _ h => h) (Or.inr ⟨by rfl, rfl⟩) hHeld ?_) | (refine wpAnyH_ready (rs := [5]) (by kernel_rfl) (by simp) (AllReadyH.cons (o := _) rfl (fun K hK => ?_) AllReadyH.nil); go_simp; go_at_call 33; refine (HH.out _ (HP.out.keep (HG3.out.trans hHeld.2))).mono ?_; rintro e w' ⟨rfl, hb⟩; refine hK.out _ _ (held_call hHeld hb) (fun hHeld => ?_); clear hK K hb)
    try simp only [Act.put, List.setIfInBounds_toArray, List.set_cons_zero, List.set_cons_succ]
    first | (refine take_at (i := 6) (oi := _) (d := some 58) (v := undef) rfl rfl (by kernel_rfl) (by kernel_rfl) (by kernel_rfl) (fun _ _ _ h => h) (Or.inr ⟨by rfl, rfl⟩) hHeld ?_) | (refine take_at (i := 6) (oi := _) (d := some 58) (v := ?_) rfl rfl (by kernel_rfl) (by kernel_rfl) (by kernel_rfl) (fun _ _ _ h => h) (Or.inl ⟨by rfl, ?_⟩) hHeld ?_; rotate_left; next => (intro w hSw; (try dsimp only at hSw); go_simp; try with_reducible rfl))
    try simp only [Act.put, List.setIfInBounds_toArray, List.set_cons_zero, List.set_cons_succ]
    refine wpAnyH_done (by kernel_rfl) ?_ _

    go_wp2_with fail
    go_ret2
    exact ⟨HG3.out.trans (hHeld.2.trans (by repeat (first | with_reducible exact Gr.refl _ | with_reducible refine Gr.alloc ?_ _ | with_reducible refine Gr.drew ?_ | with_reducible refine Gr.trans ?_ (by assumption) | with_reducible refine Gr.setCell ?_ (by (try simp); (try omega)) _))), Or.inl ⟨HHB.out, rfl⟩⟩
end Go.Proofs.YtiogfohjepobkaaDoor
