/-
  The law BrassBetter: its walk.
-/
import Derived.Test.YtbaopniofhbjdaaDoorBHead
import Derived.Test.YtbaopniofhbjdaaDoorBBetF
import Derived.Test.YtbaopniofhbjdaaDoorSrc
import Derived.Test.YtbaopniofhbjdaaDoorHas
namespace Go.Proofs.YtbaopniofhbjdaaDoor
open Go.RowKit

theorem infoPitchB : (Tryd.prog.info? 23).map (fun i => (i.zero, i.size, i.bytes)) = some (some (.agg #[.int .i64 0, .int .i64 0, .int .i64 0, .int .i64 0, .int .i64 0, .int .i64 0]), 6, 48) := by kernel_rfl

theorem tf (b : Bool) : b = true ∨ b = false := by cases b <;> simp
theorem own2 (W : World) (x y : Obj) : ((W.alloc x).alloc y).heap[W.heap.size + 1]? = some y := by
  have h := World.alloc_heap_new (W.alloc x) y
  rw [World.size_alloc] at h
  exact h

set_option maxRecDepth 100000 in
set_option maxHeartbeats 8000000 in
theorem bet_walk (b0 b1 b2 b3 b4 b5 most tol v0 v1 v2 v3 v4 v5 tl mo : Int) (A M : Option Addr) (n c k ck : Nat) (f fm : Nat → Nat → Int) (w : World) (hn : n ≤ 1048576) (hk : k ≤ 1048576) (hT : Tabs w) (hR : RowsAt w 6 A n f) (hM : RowsAt w 6 M k fm) :
    Calls Tryd.prog 6 #[.agg #[.int .i64 b0, .int .i64 b1, .int .i64 b2, .int .i64 b3, .int .i64 b4, .int .i64 b5, .slice A n c, .int .i64 most, .int .i64 tol], .agg #[.int .i64 v0, .int .i64 v1, .int .i64 v2, .int .i64 v3, .int .i64 v4, .int .i64 v5], .int .i64 tl, .int .i64 mo, .slice M k ck] w fun e w' => e = .returned (.bool true) ∧ Gr w w' := by
  obtain ⟨i0, hi1, hz0, hz1, hz2⟩ := info_parts infoPitchB
  have HT := Lib.hid hT; have HR := Lib.hid hR; have HM := Lib.hid hM
  clear hT hR hM
  go_enter Tryd.func6, Tryd.ntmps6
  go_upto_region 2 with (go_at_call 12; with_reducible refine (bhead_any _ (HT.out.keep (by repeat (first | with_reducible exact Gr.refl _ | with_reducible refine Gr.alloc ?_ _ | with_reducible refine Gr.drew ?_ | with_reducible refine Gr.trans ?_ (by assumption) | with_reducible refine Gr.setCell ?_ (by (try simp); (try omega)) _)))).mono ?_; rintro e w1 ⟨rfl, hb1⟩; have hz1' := hb1.le; obtain ⟨hc1, hf1⟩ := hb1.cells; (try simp only [World.size_alloc] at hc1 hf1 hz1'))
  have k1 : HornAt w1 w.heap.size b0 b1 b2 b3 b4 b5 (.slice A n c) most tol := ⟨by simp [go_sem, *], by simp [go_sem, *], by simp [go_sem, *], by simp [go_sem, *], by simp [go_sem, *], by simp [go_sem, *], by simp [go_sem, *], by simp [go_sem, *], by simp [go_sem, *]⟩
  have k2 : SixV w1 (w.heap.size + 1) (.int .i64 v0) (.int .i64 v1) (.int .i64 v2) (.int .i64 v3) (.int .i64 v4) (.int .i64 v5) := ⟨by simp [go_sem, *], by simp [go_sem, *], by simp [go_sem, *], by simp [go_sem, *], by simp [go_sem, *], by simp [go_sem, *]⟩
  have HG := Lib.hid (show Gr w w1 from (by repeat (first | with_reducible exact Gr.refl _ | with_reducible refine Gr.alloc ?_ _ | with_reducible refine Gr.drew ?_ | with_reducible refine Gr.trans ?_ (by assumption) | with_reducible refine Gr.setCell ?_ (by (try simp); (try omega)) _)))
  have HK1 := Lib.hid k1; have HK2 := Lib.hid k2
  have hzW : w.heap.size + 2 ≤ w1.heap.size := by omega
  have HR1 := Lib.hid (HR.out.keep HG.out); have HM1 := Lib.hid (HM.out.keep HG.out)
  obtain ⟨p0, p1, p2, p3, p4, p5, p6, p7, p8⟩ := k1
  have hs0 : w.heap.size < w1.heap.size := by omega
  clear hb1 hz1' hc1 hf1 k2
  have hN0 := cellsN_new_drew w1 #[.int .i64 0, .int .i64 0, .int .i64 0, .int .i64 0, .int .i64 0, .int .i64 0, .slice none 0 0, .int .i64 0, .int .i64 0] 26
  have hN1 := cellsN_new_drew (w1.alloc (.cells #[] 23)) #[.int .i64 0, .int .i64 0, .int .i64 0, .int .i64 0, .int .i64 0, .int .i64 0, .slice none 0 0, .int .i64 0, .int .i64 0] 26
  rw [World.size_alloc] at hN1
  obtain ⟨wo, rfl⟩ : ∃ wo : World, wo = w1 := ⟨_, rfl⟩
  go_cut [12] (fun s12 wx => ∃ B12 g cap : Nat, s12 = .pointer (some ⟨B12, 0, none⟩) ∧ HornAt wx B12 b0 b1 b2 b3 b4 b5 (.slice (some ⟨g, 0, none⟩) (n + k) cap) (max most mo) (max tol tl) ∧ RowsAt wx 6 (some ⟨g, 0, none⟩) (n + k) (extF f n fm) ∧ wo.heap.size ≤ B12 ∧ B12 < wx.heap.size ∧ Gr wo wx)
  case first =>
    refine wp_region_held_drew (S := fun wx => (∀ b o, (⟨min (b + 1) wo.heap.size, 0, none⟩ : Addr) = ⟨b + 1, 0, none⟩ → wx.cell? ⟨b, o, none⟩ = wo.cell? ⟨b, o, none⟩) ∧ Gr wo wx) (by kernel_rfl) (held_drew wo) (fun hHeld => ?_)
    refine take_at (i := 0) (oi := _) (d := some 27) (v := ?_) rfl rfl (by kernel_rfl) (by kernel_rfl) (by kernel_rfl) (fun _ _ _ h => h) (Or.inl ⟨by rfl, ?_⟩) hHeld ?_
    rotate_left
    next => (intro w hSw; (try dsimp only at hSw); go_simp; try with_reducible rfl)
    try simp only [Act.put, List.setIfInBounds_toArray, List.set_cons_zero, List.set_cons_succ]
    refine take_at (i := 1) (oi := _) (d := some 28) (v := ?_) rfl rfl (by kernel_rfl) (by kernel_rfl) (by kernel_rfl) (fun _ _ _ h => h) (Or.inl ⟨by rfl, ?_⟩) hHeld ?_
    rotate_left
    next => (intro w hSw; (try dsimp only at hSw); go_simp; try with_reducible rfl)
    try simp only [Act.put, List.setIfInBounds_toArray, List.set_cons_zero, List.set_cons_succ]
    refine take_at (i := 3) (oi := _) (d := some 30) (v := ?_) rfl rfl (by kernel_rfl) (by kernel_rfl) (by kernel_rfl) (fun _ _ _ h => h) (Or.inl ⟨by rfl, ?_⟩) hHeld ?_
    rotate_left
    next => (intro w hSw; (try dsimp only at hSw); go_simp; try with_reducible rfl)
    try simp only [Act.put, List.setIfInBounds_toArray, List.set_cons_zero, List.set_cons_succ]
    refine take_at (i := 4) (oi := _) (d := some 31) (v := ?_) rfl rfl (by kernel_rfl) (by kernel_rfl) (by kernel_rfl) (fun _ _ _ h => h) (Or.inl ⟨by rfl, ?_⟩) hHeld ?_
    rotate_left
    next => (intro w hSw; (try dsimp only at hSw); go_simp; try with_reducible rfl)
    try simp only [Act.put, List.setIfInBounds_toArray, List.set_cons_zero, List.set_cons_succ]
    refine take_at (i := 6) (oi := _) (d := some 33) (v := ?_) rfl rfl (by kernel_rfl) (by kernel_rfl) (by kernel_rfl) (fun _ _ _ h => h) (Or.inl ⟨by rfl, ?_⟩) hHeld ?_
    rotate_left
    next => (intro w hSw; (try dsimp only at hSw); go_simp; try with_reducible rfl)
    try simp only [Act.put, List.setIfInBounds_toArray, List.set_cons_zero, List.set_cons_succ]
    refine take_at (i := 8) (oi := _) (d := some 35) (v := ?_) rfl rfl (by kernel_rfl) (by kernel_rfl) (by kernel_rfl) (fun _ _ _ h => h) (Or.inl ⟨by rfl, ?_⟩) hHeld ?_
    rotate_left
    next => (intro w hSw; (try dsimp only at hSw); go_simp; try with_reducible rfl)
    try simp only [Act.put, List.setIfInBounds_toArray, List.set_cons_zero, List.set_cons_succ]
    refine take_at (i := 9) (oi := _) (d := some 36) (v := ?_) rfl rfl (by kernel_rfl) (by kernel_rfl) (by kernel_rfl) (fun _ _ _ h => h) (Or.inl ⟨by rfl, ?_⟩) hHeld ?_
    rotate_left
    next => (intro w hSw; (try dsimp only at hSw); go_simp; try with_reducible rfl)
    try simp only [Act.put, List.setIfInBounds_toArray, List.set_cons_zero, List.set_cons_succ]
    refine take_at (i := 10) (oi := _) (d := some 37) (v := ?_) rfl rfl (by kernel_rfl) (by kernel_rfl) (by kernel_rfl) (fun _ _ _ h => h) (Or.inl ⟨by rfl, ?_⟩) hHeld ?_
    rotate_left
    next => (intro w hSw; (try dsimp only at hSw); go_simp; try with_reducible rfl)
    try simp only [Act.put, List.setIfInBounds_toArray, List.set_cons_zero, List.set_cons_succ]
    refine take_at (i := 11) (oi := _) (d := some 38) (v := ?_) rfl rfl (by kernel_rfl) (by kernel_rfl) (by kernel_rfl) (fun _ _ _ h => h) (Or.inl ⟨by rfl, ?_⟩) hHeld ?_
    rotate_left
    next => (intro w hSw; (try dsimp only at hSw); go_simp; try with_reducible rfl)
    try simp only [Act.put, List.setIfInBounds_toArray, List.set_cons_zero, List.set_cons_succ]
    refine take_at (i := 12) (oi := _) (d := some 39) (v := ?_) rfl rfl (by kernel_rfl) (by kernel_rfl) (by kernel_rfl) (fun _ _ _ h => h) (Or.inl ⟨by rfl, ?_⟩) hHeld ?_
    rotate_left
    next => (intro w hSw; (try dsimp only at hSw); go_simp; try with_reducible rfl)
    try simp only [Act.put, List.setIfInBounds_toArray, List.set_cons_zero, List.set_cons_succ]
    refine take_at (i := 13) (oi := _) (d := some 40) (v := ?_) rfl rfl (by kernel_rfl) (by kernel_rfl) (by kernel_rfl) (fun _ _ _ h => h) (Or.inl ⟨by rfl, ?_⟩) hHeld ?_
    rotate_left
    next => (intro w hSw; (try dsimp only at hSw); go_simp; try with_reducible rfl)
    try simp only [Act.put, List.setIfInBounds_toArray, List.set_cons_zero, List.set_cons_succ]
    refine take_at (i := 14) (oi := _) (d := some 41) (v := ?_) rfl rfl (by kernel_rfl) (by kernel_rfl) (by kernel_rfl) (fun _ _ _ h => h) (Or.inl ⟨by rfl, ?_⟩) hHeld ?_
    rotate_left
    next => (intro w hSw; (try dsimp only at hSw); go_simp; try with_reducible rfl)
    try simp only [Act.put, List.setIfInBounds_toArray, List.set_cons_zero, List.set_cons_succ]
    refine take_at (i := 15) (oi := _) (d := some 42) (v := ?_) rfl rfl (by kernel_rfl) (by kernel_rfl) (by kernel_rfl) (fun _ _ _ h => h) (Or.inl ⟨by rfl, ?_⟩) hHeld ?_
    rotate_left
    next => (intro w hSw; (try dsimp only at hSw); go_simp; try with_reducible rfl)
    try simp only [Act.put, List.setIfInBounds_toArray, List.set_cons_zero, List.set_cons_succ]
    refine wpAnyH_ready (rs := [2, 17]) (by kernel_rfl) (by simp) ?_
    refine AllReadyH.cons (o := _) rfl (fun K hK => ?_) ?_
    · go_simp
      refine hK.out _ _ (by (try dsimp only); (first | with_reducible exact held_drew _ | with_reducible exact held_call (by assumption) (by assumption) | with_reducible exact held_alloc (by assumption) _ | with_reducible exact held_alloc0 _ _ | with_reducible exact held_allocd (by assumption) _ | with_reducible exact held_anew (by assumption) _ (by omega) | ((repeat (with_reducible refine held_set ?_ (by (try simp); (try omega)) _)); (first | with_reducible assumption | with_reducible exact held_call (by assumption) (by assumption))))) (fun hHeld => ?_)
      clear hK K
      try simp only [Act.put, List.setIfInBounds_toArray, List.set_cons_zero, List.set_cons_succ]
      refine wpAnyH_ready (rs := [5, 17]) (by kernel_rfl) (by simp) ?_
      refine AllReadyH.cons (o := { dst := some 32, op := Op.call { callee := Callee.builtin Builtin.append, args := #[Operand.tmp 29, Operand.tmp 31], argTypes := #[24, 24] }, type := 24, pos := "law.go:173", after := #[{ on := 2, ground := Ground.data }, { on := 4, ground := Ground.data }], guard := none }) rfl (fun K hK => ?_) ?_
      · refine step_append_src (by rfl) (.tmp 29) (.tmp 31) 24 (by rfl) wo.heap.size 23 i0 (.agg #[.int .i64 0, .int .i64 0, .int .i64 0, .int .i64 0, .int .i64 0, .int .i64 0]) 48 Tryd.underlying24 hi1 hz0 hz1 hz2 (by rfl) _ 0 0 [] (by rfl) (own_empty (by first | exact World.alloc_heap_new _ _ | exact own2 _ _ _ | exact (Below.heap_alloc _ _ _ (by simp)).trans (World.alloc_heap_new _ _)) (by (try simp); (try omega))) A n c f (by rfl) (HR1.out.keep hHeld.2) (by unfold maxLen; omega) (by omega) hHeld.2.le ?_
        intro g cap w' hown hor hbg hz hgl hcx hfx hn hgr
        have hHx := held_of (hgr _ hHeld.2 (Nat.le_refl _))
        simp only [Nat.zero_add, List.nil_append] at hown
        have HOWN := Lib.hid hown
        clear hown hgr
        (try simp only [World.size_drew] at hcx hfx hz hn hor)
        (try simp only [World.size_alloc] at hcx hfx hz hn hor)
        refine hK.out _ _ hHx (fun hHeld => ?_)
        clear hK K
        try simp only [Act.put, Nat.zero_add, List.setIfInBounds_toArray, List.set_cons_zero, List.set_cons_succ]
        refine wpAnyH_ready (rs := [7, 17]) (by kernel_rfl) (by simp) ?_
        refine AllReadyH.cons (o := { dst := some 34, op := Op.call { callee := Callee.builtin Builtin.append, args := #[Operand.tmp 32, Operand.tmp 33], argTypes := #[24, 24] }, type := 24, pos := "law.go:173", after := #[{ on := 5, ground := Ground.data }, { on := 6, ground := Ground.data }, { on := 5, ground := Ground.chain }], guard := none }) rfl (fun K hK => ?_) ?_
        · refine step_append_src (by rfl) (.tmp 32) (.tmp 33) 24 (by rfl) wo.heap.size 23 i0 (.agg #[.int .i64 0, .int .i64 0, .int .i64 0, .int .i64 0, .int .i64 0, .int .i64 0]) 48 Tryd.underlying24 hi1 hz0 hz1 hz2 (by rfl) _ n _ _ (by rfl) (by first | exact HOWN.out | exact own_keep HOWN.out ((Gr.refl _).alloc _)) M k ck fm (by rfl) (HM1.out.keep hHeld.2) (by unfold maxLen; omega) (by omega) hHeld.2.le ?_
          intro g2 cap2 w2 hown2 hor2 hbg2 hz22 hgl2 hcx2 hfx2 hn2 hgr2
          have hHx2 := held_of (hgr2 _ hHeld.2 (Nat.le_refl _))
          rw [rowCells_ext] at hown2
          have HROW := Lib.hid (rowW_of_own hown2)
          clear hown2 hgr2
          (try simp only [World.size_drew] at hcx2 hfx2 hz22 hn2 hor2)
          (try simp only [World.size_alloc] at hcx2 hfx2 hz22 hn2 hor2)
          refine hK.out _ _ hHx2 (fun hHeld => ?_)
          clear hK K
          try simp only [Act.put, List.setIfInBounds_toArray, List.set_cons_zero, List.set_cons_succ]
          refine take_at (i := 16) (oi := _) (d := some 43) (v := ?_) rfl rfl (by kernel_rfl) (by kernel_rfl) (by kernel_rfl) (fun _ _ _ h => h) (Or.inl ⟨by rfl, ?_⟩) hHeld ?_
          rotate_left
          next => (intro w hSw; (try dsimp only at hSw); go_simp; try with_reducible rfl)
          try simp only [Act.put, List.setIfInBounds_toArray, List.set_cons_zero, List.set_cons_succ]
          refine wpAnyH_ready (rs := [17]) (by kernel_rfl) (by simp) ?_
          refine AllReadyH.cons (o := _) rfl (fun K hK => ?_) ?_
          · go_simp
            refine hK.out _ _ (by (try dsimp only); (first | with_reducible exact held_drew _ | with_reducible exact held_call (by assumption) (by assumption) | with_reducible exact held_alloc (by assumption) _ | with_reducible exact held_alloc0 _ _ | with_reducible exact held_allocd (by assumption) _ | with_reducible exact held_anew (by assumption) _ (by omega) | ((repeat (with_reducible refine held_set ?_ (by (try simp); (try omega)) _)); (first | with_reducible assumption | with_reducible exact held_call (by assumption) (by assumption))))) (fun hHeld => ?_)
            clear hK K
            try simp only [Act.put, List.setIfInBounds_toArray, List.set_cons_zero, List.set_cons_succ]
            refine wpAnyH_ready (rs := [18]) (by kernel_rfl) (by simp) ?_
            refine AllReadyH.cons (o := _) rfl (fun K hK => ?_) ?_
            · go_simp
              refine hK.out _ _ (by (try dsimp only); (first | with_reducible exact held_drew _ | with_reducible exact held_call (by assumption) (by assumption) | with_reducible exact held_alloc (by assumption) _ | with_reducible exact held_alloc0 _ _ | with_reducible exact held_allocd (by assumption) _ | with_reducible exact held_anew (by assumption) _ (by omega) | ((repeat (with_reducible refine held_set ?_ (by (try simp); (try omega)) _)); (first | with_reducible assumption | with_reducible exact held_call (by assumption) (by assumption))))) (fun hHeld => ?_)
              clear hK K
              try simp only [Act.put, List.setIfInBounds_toArray, List.set_cons_zero, List.set_cons_succ]
              refine wpAnyH_done (by kernel_rfl) ?_ _
              go_wp2_with fail
              go_meet
              exact ⟨w2.heap.size, g2, cap2, rfl, ⟨by simp [go_sem], by simp [go_sem], by simp [go_sem], by simp [go_sem], by simp [go_sem], by simp [go_sem], by simp [go_sem], by simp [go_sem], by simp [go_sem]⟩, (HROW.out.keep ((Gr.refl _).alloc _)).rows, by omega, by simp, held_gr (by assumption)⟩
            exact AllReadyH.nil
          exact AllReadyH.nil
        refine AllReadyH.cons (o := _) rfl (fun K hK => ?_) ?_
        · go_simp
          refine hK.out _ _ (by (try dsimp only); (first | with_reducible exact held_drew _ | with_reducible exact held_call (by assumption) (by assumption) | with_reducible exact held_alloc (by assumption) _ | with_reducible exact held_alloc0 _ _ | with_reducible exact held_allocd (by assumption) _ | with_reducible exact held_anew (by assumption) _ (by omega) | ((repeat (with_reducible refine held_set ?_ (by (try simp); (try omega)) _)); (first | with_reducible assumption | with_reducible exact held_call (by assumption) (by assumption))))) (fun hHeld => ?_)
          clear hK K
          try simp only [Act.put, List.setIfInBounds_toArray, List.set_cons_zero, List.set_cons_succ]
          refine wpAnyH_ready (rs := [7]) (by kernel_rfl) (by simp) ?_
          refine AllReadyH.cons (o := { dst := some 34, op := Op.call { callee := Callee.builtin Builtin.append, args := #[Operand.tmp 32, Operand.tmp 33], argTypes := #[24, 24] }, type := 24, pos := "law.go:173", after := #[{ on := 5, ground := Ground.data }, { on := 6, ground := Ground.data }, { on := 5, ground := Ground.chain }], guard := none }) rfl (fun K hK => ?_) ?_
          · refine step_append_src (by rfl) (.tmp 32) (.tmp 33) 24 (by rfl) wo.heap.size 23 i0 (.agg #[.int .i64 0, .int .i64 0, .int .i64 0, .int .i64 0, .int .i64 0, .int .i64 0]) 48 Tryd.underlying24 hi1 hz0 hz1 hz2 (by rfl) _ n _ _ (by rfl) (by first | exact HOWN.out | exact own_keep HOWN.out ((Gr.refl _).alloc _)) M k ck fm (by rfl) (HM1.out.keep hHeld.2) (by unfold maxLen; omega) (by omega) hHeld.2.le ?_
            intro g2 cap2 w2 hown2 hor2 hbg2 hz22 hgl2 hcx2 hfx2 hn2 hgr2
            have hHx2 := held_of (hgr2 _ hHeld.2 (Nat.le_refl _))
            rw [rowCells_ext] at hown2
            have HROW := Lib.hid (rowW_of_own hown2)
            clear hown2 hgr2
            (try simp only [World.size_drew] at hcx2 hfx2 hz22 hn2 hor2)
            (try simp only [World.size_alloc] at hcx2 hfx2 hz22 hn2 hor2)
            refine hK.out _ _ hHx2 (fun hHeld => ?_)
            clear hK K
            try simp only [Act.put, List.setIfInBounds_toArray, List.set_cons_zero, List.set_cons_succ]
            refine take_at (i := 16) (oi := _) (d := some 43) (v := ?_) rfl rfl (by kernel_rfl) (by kernel_rfl) (by kernel_rfl) (fun _ _ _ h => h) (Or.inl ⟨by rfl, ?_⟩) hHeld ?_
            rotate_left
            next => (intro w hSw; (try dsimp only at hSw); go_simp; try with_reducible rfl)
            try simp only [Act.put, List.setIfInBounds_toArray, List.set_cons_zero, List.set_cons_succ]
            refine wpAnyH_ready (rs := [18]) (by kernel_rfl) (by simp) ?_
            refine AllReadyH.cons (o := _) rfl (fun K hK => ?_) ?_
            · go_simp
              refine hK.out _ _ (by (try dsimp only); (first | with_reducible exact held_drew _ | with_reducible exact held_call (by assumption) (by assumption) | with_reducible exact held_alloc (by assumption) _ | with_reducible exact held_alloc0 _ _ | with_reducible exact held_allocd (by assumption) _ | with_reducible exact held_anew (by assumption) _ (by omega) | ((repeat (with_reducible refine held_set ?_ (by (try simp); (try omega)) _)); (first | with_reducible assumption | with_reducible exact held_call (by assumption) (by assumption))))) (fun hHeld => ?_)
              clear hK K
              try simp only [Act.put, List.setIfInBounds_toArray, List.set_cons_zero, List.set_cons_succ]
              refine wpAnyH_done (by kernel_rfl) ?_ _
              go_wp2_with fail
              go_meet
              have hcn : cellsN w2 w'.heap.size = 9 := (hn2 _ (by (try simp); (try omega)) (by intro h; injection h; omega)).trans (cellsN_alloc_new _ _ _ _)
              obtain ⟨c0, c1, c2, c3, c4, c5, c6, c7, c8⟩ := set9_cells w2 w'.heap.size (.int .i64 b0) (.int .i64 b1) (.int .i64 b2) (.int .i64 b3) (.int .i64 b4) (.int .i64 b5) (.slice (some ⟨g2, 0, none⟩) (n + k) cap2) (.int .i64 (max most mo)) (.int .i64 (max tol tl)) hcn
              have hrw := set9_row HROW.out (B := w'.heap.size) (by omega) (.int .i64 b0) (.int .i64 b1) (.int .i64 b2) (.int .i64 b3) (.int .i64 b4) (.int .i64 b5) (.slice (some ⟨g2, 0, none⟩) (n + k) cap2) (.int .i64 (max most mo)) (.int .i64 (max tol tl))
              exact ⟨w'.heap.size, g2, cap2, rfl, ⟨c0, c1, c2, c3, c4, c5, c6, c7, c8⟩, hrw.rows, by omega, by simp only [World.size_setCell]; omega, held_gr (by assumption)⟩
            exact AllReadyH.nil
          exact AllReadyH.nil
        exact AllReadyH.nil
      refine AllReadyH.cons (o := _) rfl (fun K hK => ?_) ?_
      · go_simp
        refine hK.out _ _ (by (try dsimp only); (first | with_reducible exact held_drew _ | with_reducible exact held_call (by assumption) (by assumption) | with_reducible exact held_alloc (by assumption) _ | with_reducible exact held_alloc0 _ _ | with_reducible exact held_allocd (by assumption) _ | with_reducible exact held_anew (by assumption) _ (by omega) | ((repeat (with_reducible refine held_set ?_ (by (try simp); (try omega)) _)); (first | with_reducible assumption | with_reducible exact held_call (by assumption) (by assumption))))) (fun hHeld => ?_)
        clear hK K
        try simp only [Act.put, List.setIfInBounds_toArray, List.set_cons_zero, List.set_cons_succ]
        refine wpAnyH_ready (rs := [5]) (by kernel_rfl) (by simp) ?_
        refine AllReadyH.cons (o := { dst := some 32, op := Op.call { callee := Callee.builtin Builtin.append, args := #[Operand.tmp 29, Operand.tmp 31], argTypes := #[24, 24] }, type := 24, pos := "law.go:173", after := #[{ on := 2, ground := Ground.data }, { on := 4, ground := Ground.data }], guard := none }) rfl (fun K hK => ?_) ?_
        · refine step_append_src (by rfl) (.tmp 29) (.tmp 31) 24 (by rfl) wo.heap.size 23 i0 (.agg #[.int .i64 0, .int .i64 0, .int .i64 0, .int .i64 0, .int .i64 0, .int .i64 0]) 48 Tryd.underlying24 hi1 hz0 hz1 hz2 (by rfl) _ 0 0 [] (by rfl) (own_empty (by first | exact World.alloc_heap_new _ _ | exact own2 _ _ _ | exact (Below.heap_alloc _ _ _ (by simp)).trans (World.alloc_heap_new _ _)) (by (try simp); (try omega))) A n c f (by rfl) (HR1.out.keep hHeld.2) (by unfold maxLen; omega) (by omega) hHeld.2.le ?_
          intro g cap w' hown hor hbg hz hgl hcx hfx hn hgr
          have hHx := held_of (hgr _ hHeld.2 (Nat.le_refl _))
          simp only [Nat.zero_add, List.nil_append] at hown
          have HOWN := Lib.hid hown
          clear hown hgr
          (try simp only [World.size_drew] at hcx hfx hz hn hor)
          (try simp only [World.size_alloc] at hcx hfx hz hn hor)
          refine hK.out _ _ hHx (fun hHeld => ?_)
          clear hK K
          try simp only [Act.put, Nat.zero_add, List.setIfInBounds_toArray, List.set_cons_zero, List.set_cons_succ]
          refine wpAnyH_ready (rs := [7]) (by kernel_rfl) (by simp) ?_
          refine AllReadyH.cons (o := { dst := some 34, op := Op.call { callee := Callee.builtin Builtin.append, args := #[Operand.tmp 32, Operand.tmp 33], argTypes := #[24, 24] }, type := 24, pos := "law.go:173", after := #[{ on := 5, ground := Ground.data }, { on := 6, ground := Ground.data }, { on := 5, ground := Ground.chain }], guard := none }) rfl (fun K hK => ?_) ?_
          · refine step_append_src (by rfl) (.tmp 32) (.tmp 33) 24 (by rfl) wo.heap.size 23 i0 (.agg #[.int .i64 0, .int .i64 0, .int .i64 0, .int .i64 0, .int .i64 0, .int .i64 0]) 48 Tryd.underlying24 hi1 hz0 hz1 hz2 (by rfl) _ n _ _ (by rfl) (by first | exact HOWN.out | exact own_keep HOWN.out ((Gr.refl _).alloc _)) M k ck fm (by rfl) (HM1.out.keep hHeld.2) (by unfold maxLen; omega) (by omega) hHeld.2.le ?_
            intro g2 cap2 w2 hown2 hor2 hbg2 hz22 hgl2 hcx2 hfx2 hn2 hgr2
            have hHx2 := held_of (hgr2 _ hHeld.2 (Nat.le_refl _))
            rw [rowCells_ext] at hown2
            have HROW := Lib.hid (rowW_of_own hown2)
            clear hown2 hgr2
            (try simp only [World.size_drew] at hcx2 hfx2 hz22 hn2 hor2)
            (try simp only [World.size_alloc] at hcx2 hfx2 hz22 hn2 hor2)
            refine hK.out _ _ hHx2 (fun hHeld => ?_)
            clear hK K
            try simp only [Act.put, List.setIfInBounds_toArray, List.set_cons_zero, List.set_cons_succ]
            refine take_at (i := 16) (oi := _) (d := some 43) (v := ?_) rfl rfl (by kernel_rfl) (by kernel_rfl) (by kernel_rfl) (fun _ _ _ h => h) (Or.inl ⟨by rfl, ?_⟩) hHeld ?_
            rotate_left
            next => (intro w hSw; (try dsimp only at hSw); go_simp; try with_reducible rfl)
            try simp only [Act.put, List.setIfInBounds_toArray, List.set_cons_zero, List.set_cons_succ]
            refine wpAnyH_ready (rs := [18]) (by kernel_rfl) (by simp) ?_
            refine AllReadyH.cons (o := _) rfl (fun K hK => ?_) ?_
            · go_simp
              refine hK.out _ _ (by (try dsimp only); (first | with_reducible exact held_drew _ | with_reducible exact held_call (by assumption) (by assumption) | with_reducible exact held_alloc (by assumption) _ | with_reducible exact held_alloc0 _ _ | with_reducible exact held_allocd (by assumption) _ | with_reducible exact held_anew (by assumption) _ (by omega) | ((repeat (with_reducible refine held_set ?_ (by (try simp); (try omega)) _)); (first | with_reducible assumption | with_reducible exact held_call (by assumption) (by assumption))))) (fun hHeld => ?_)
              clear hK K
              try simp only [Act.put, List.setIfInBounds_toArray, List.set_cons_zero, List.set_cons_succ]
              refine wpAnyH_done (by kernel_rfl) ?_ _
              go_wp2_with fail
              go_meet
              have hcn : cellsN w2 (wo.heap.size + 1) = 9 := (hn2 _ (by (try simp); (try omega)) (by intro h; injection h; omega)).trans ((hn _ (by (try simp); (try omega)) (by intro h; injection h; omega)).trans hN1)
              obtain ⟨c0, c1, c2, c3, c4, c5, c6, c7, c8⟩ := set9_cells w2 (wo.heap.size + 1) (.int .i64 b0) (.int .i64 b1) (.int .i64 b2) (.int .i64 b3) (.int .i64 b4) (.int .i64 b5) (.slice (some ⟨g2, 0, none⟩) (n + k) cap2) (.int .i64 (max most mo)) (.int .i64 (max tol tl)) hcn
              have hrw := set9_row HROW.out (B := (wo.heap.size + 1)) (by omega) (.int .i64 b0) (.int .i64 b1) (.int .i64 b2) (.int .i64 b3) (.int .i64 b4) (.int .i64 b5) (.slice (some ⟨g2, 0, none⟩) (n + k) cap2) (.int .i64 (max most mo)) (.int .i64 (max tol tl))
              exact ⟨(wo.heap.size + 1), g2, cap2, rfl, ⟨c0, c1, c2, c3, c4, c5, c6, c7, c8⟩, hrw.rows, by omega, by simp only [World.size_setCell]; omega, held_gr (by assumption)⟩
            exact AllReadyH.nil
          exact AllReadyH.nil
        exact AllReadyH.nil
      exact AllReadyH.nil
    refine AllReadyH.cons (o := _) rfl (fun K hK => ?_) ?_
    · go_simp
      refine hK.out _ _ (by (try dsimp only); (first | with_reducible exact held_drew _ | with_reducible exact held_call (by assumption) (by assumption) | with_reducible exact held_alloc (by assumption) _ | with_reducible exact held_alloc0 _ _ | with_reducible exact held_allocd (by assumption) _ | with_reducible exact held_anew (by assumption) _ (by omega) | ((repeat (with_reducible refine held_set ?_ (by (try simp); (try omega)) _)); (first | with_reducible assumption | with_reducible exact held_call (by assumption) (by assumption))))) (fun hHeld => ?_)
      clear hK K
      try simp only [Act.put, List.setIfInBounds_toArray, List.set_cons_zero, List.set_cons_succ]
      refine wpAnyH_ready (rs := [2]) (by kernel_rfl) (by simp) ?_
      refine AllReadyH.cons (o := _) rfl (fun K hK => ?_) ?_
      · go_simp
        refine hK.out _ _ (by (try dsimp only); (first | with_reducible exact held_drew _ | with_reducible exact held_call (by assumption) (by assumption) | with_reducible exact held_alloc (by assumption) _ | with_reducible exact held_alloc0 _ _ | with_reducible exact held_allocd (by assumption) _ | with_reducible exact held_anew (by assumption) _ (by omega) | ((repeat (with_reducible refine held_set ?_ (by (try simp); (try omega)) _)); (first | with_reducible assumption | with_reducible exact held_call (by assumption) (by assumption))))) (fun hHeld => ?_)
        clear hK K
        try simp only [Act.put, List.setIfInBounds_toArray, List.set_cons_zero, List.set_cons_succ]
        refine wpAnyH_ready (rs := [5]) (by kernel_rfl) (by simp) ?_
        refine AllReadyH.cons (o := { dst := some 32, op := Op.call { callee := Callee.builtin Builtin.append, args := #[Operand.tmp 29, Operand.tmp 31], argTypes := #[24, 24] }, type := 24, pos := "law.go:173", after := #[{ on := 2, ground := Ground.data }, { on := 4, ground := Ground.data }], guard := none }) rfl (fun K hK => ?_) ?_
        · refine step_append_src (by rfl) (.tmp 29) (.tmp 31) 24 (by rfl) wo.heap.size 23 i0 (.agg #[.int .i64 0, .int .i64 0, .int .i64 0, .int .i64 0, .int .i64 0, .int .i64 0]) 48 Tryd.underlying24 hi1 hz0 hz1 hz2 (by rfl) _ 0 0 [] (by rfl) (own_empty (by first | exact World.alloc_heap_new _ _ | exact own2 _ _ _ | exact (Below.heap_alloc _ _ _ (by simp)).trans (World.alloc_heap_new _ _)) (by (try simp); (try omega))) A n c f (by rfl) (HR1.out.keep hHeld.2) (by unfold maxLen; omega) (by omega) hHeld.2.le ?_
          intro g cap w' hown hor hbg hz hgl hcx hfx hn hgr
          have hHx := held_of (hgr _ hHeld.2 (Nat.le_refl _))
          simp only [Nat.zero_add, List.nil_append] at hown
          have HOWN := Lib.hid hown
          clear hown hgr
          (try simp only [World.size_drew] at hcx hfx hz hn hor)
          (try simp only [World.size_alloc] at hcx hfx hz hn hor)
          refine hK.out _ _ hHx (fun hHeld => ?_)
          clear hK K
          try simp only [Act.put, Nat.zero_add, List.setIfInBounds_toArray, List.set_cons_zero, List.set_cons_succ]
          refine wpAnyH_ready (rs := [7]) (by kernel_rfl) (by simp) ?_
          refine AllReadyH.cons (o := { dst := some 34, op := Op.call { callee := Callee.builtin Builtin.append, args := #[Operand.tmp 32, Operand.tmp 33], argTypes := #[24, 24] }, type := 24, pos := "law.go:173", after := #[{ on := 5, ground := Ground.data }, { on := 6, ground := Ground.data }, { on := 5, ground := Ground.chain }], guard := none }) rfl (fun K hK => ?_) ?_
          · refine step_append_src (by rfl) (.tmp 32) (.tmp 33) 24 (by rfl) wo.heap.size 23 i0 (.agg #[.int .i64 0, .int .i64 0, .int .i64 0, .int .i64 0, .int .i64 0, .int .i64 0]) 48 Tryd.underlying24 hi1 hz0 hz1 hz2 (by rfl) _ n _ _ (by rfl) (by first | exact HOWN.out | exact own_keep HOWN.out ((Gr.refl _).alloc _)) M k ck fm (by rfl) (HM1.out.keep hHeld.2) (by unfold maxLen; omega) (by omega) hHeld.2.le ?_
            intro g2 cap2 w2 hown2 hor2 hbg2 hz22 hgl2 hcx2 hfx2 hn2 hgr2
            have hHx2 := held_of (hgr2 _ hHeld.2 (Nat.le_refl _))
            rw [rowCells_ext] at hown2
            have HROW := Lib.hid (rowW_of_own hown2)
            clear hown2 hgr2
            (try simp only [World.size_drew] at hcx2 hfx2 hz22 hn2 hor2)
            (try simp only [World.size_alloc] at hcx2 hfx2 hz22 hn2 hor2)
            refine hK.out _ _ hHx2 (fun hHeld => ?_)
            clear hK K
            try simp only [Act.put, List.setIfInBounds_toArray, List.set_cons_zero, List.set_cons_succ]
            refine take_at (i := 16) (oi := _) (d := some 43) (v := ?_) rfl rfl (by kernel_rfl) (by kernel_rfl) (by kernel_rfl) (fun _ _ _ h => h) (Or.inl ⟨by rfl, ?_⟩) hHeld ?_
            rotate_left
            next => (intro w hSw; (try dsimp only at hSw); go_simp; try with_reducible rfl)
            try simp only [Act.put, List.setIfInBounds_toArray, List.set_cons_zero, List.set_cons_succ]
            refine wpAnyH_ready (rs := [18]) (by kernel_rfl) (by simp) ?_
            refine AllReadyH.cons (o := _) rfl (fun K hK => ?_) ?_
            · go_simp
              refine hK.out _ _ (by (try dsimp only); (first | with_reducible exact held_drew _ | with_reducible exact held_call (by assumption) (by assumption) | with_reducible exact held_alloc (by assumption) _ | with_reducible exact held_alloc0 _ _ | with_reducible exact held_allocd (by assumption) _ | with_reducible exact held_anew (by assumption) _ (by omega) | ((repeat (with_reducible refine held_set ?_ (by (try simp); (try omega)) _)); (first | with_reducible assumption | with_reducible exact held_call (by assumption) (by assumption))))) (fun hHeld => ?_)
              clear hK K
              try simp only [Act.put, List.setIfInBounds_toArray, List.set_cons_zero, List.set_cons_succ]
              refine wpAnyH_done (by kernel_rfl) ?_ _
              go_wp2_with fail
              go_meet
              have hcn : cellsN w2 wo.heap.size = 9 := (hn2 _ (by (try simp); (try omega)) (by intro h; injection h; omega)).trans ((hn _ (by (try simp); (try omega)) (by intro h; injection h; omega)).trans (by simp [go_sem]))
              obtain ⟨c0, c1, c2, c3, c4, c5, c6, c7, c8⟩ := set9_cells w2 wo.heap.size (.int .i64 b0) (.int .i64 b1) (.int .i64 b2) (.int .i64 b3) (.int .i64 b4) (.int .i64 b5) (.slice (some ⟨g2, 0, none⟩) (n + k) cap2) (.int .i64 (max most mo)) (.int .i64 (max tol tl)) hcn
              have hrw := set9_row HROW.out (B := wo.heap.size) (by omega) (.int .i64 b0) (.int .i64 b1) (.int .i64 b2) (.int .i64 b3) (.int .i64 b4) (.int .i64 b5) (.slice (some ⟨g2, 0, none⟩) (n + k) cap2) (.int .i64 (max most mo)) (.int .i64 (max tol tl))
              exact ⟨wo.heap.size, g2, cap2, rfl, ⟨c0, c1, c2, c3, c4, c5, c6, c7, c8⟩, hrw.rows, by omega, by simp only [World.size_setCell]; omega, held_gr (by assumption)⟩
            exact AllReadyH.nil
          exact AllReadyH.nil
        exact AllReadyH.nil
      exact AllReadyH.nil
    exact AllReadyH.nil
  case rest =>
    obtain ⟨B12, g, cap, rfl, hh12, hrow, hB12, hB12l, hgc⟩ := hcut
    have hT2 := HT.out.keep (HG.out.trans hgc)
    have hR2 := HR1.out.keep hgc
    have hk1 := HK1.out.keep hgc hs0
    have hk2 := HK2.out.keep hgc (show w.heap.size + 1 < wo.heap.size by omega)
    have hlec := hgc.le
    have HGC := Lib.hid hgc
    have HH12 := Lib.hid hh12
    have HHA := Lib.hid hk1
    have HHV := Lib.hid hk2
    have HV1 := Lib.hid (fun W (h : Gr wc W) => hornValid_any b0 b1 b2 b3 b4 b5 most tol A n c f W (hT2.keep h).primes (hR2.keep h) (by omega))
    have HV2 := Lib.hid (fun W (h : Gr wc W) => hornValid_any b0 b1 b2 b3 b4 b5 (max most mo) (max tol tl) (some ⟨g, 0, none⟩) (n + k) cap (extF f n fm) W (hT2.keep h).primes (hrow.keep h) (by omega))
    have HIV := Lib.hid (fun W => pinterval_any v0 v1 v2 v3 v4 v5 W)
    have key := bet_facts b0 b1 b2 b3 b4 b5 most tol (max most mo) (max tol tl) v0 v1 v2 v3 v4 v5 A (some ⟨g, 0, none⟩) n k c cap f fm (by omega) (by omega) (by omega)
    have hw1 : w.heap.size + 1 < wc.heap.size := by omega
    have e0 := hk1.c6
    have e1 := hh12.c6
    obtain ⟨p0, p1, p2, p3, p4, p5, p6, p7, p8⟩ := hk1
    obtain ⟨u0, u1, u2, u3, u4, u5⟩ := hk2
    obtain ⟨r0, r1, r2, r3, r4, r5, r6, r7, r8⟩ := hh12
    have HT2 := Lib.hid hT2; have HR2 := Lib.hid hR2; have HROW := Lib.hid hrow; have KEY := Lib.hid key
    clear hT2 hR2 hrow hgc e0 e1 key hN0 hN1 
    generalize max most mo = most' at *
    generalize max tol tl = tol' at *
    rcases tf (hornOk ⟨b0, b1, b2, b3, b4, b5⟩ n f most tol) with q1 | q1
    rotate_left
    · rw [q1] at HV1
      clear KEY q1
      go_wp2_with fail
      (go_at_call 13; with_reducible refine (HV1.out _ (by repeat (first | with_reducible exact Gr.refl _ | with_reducible refine Gr.alloc ?_ _ | with_reducible refine Gr.drew ?_ | with_reducible refine Gr.trans ?_ (by assumption) | with_reducible refine Gr.setCell ?_ (by (try simp); (try omega)) _))).mono ?_; rintro e w' ⟨rfl, hb⟩; have hz := hb.le; obtain ⟨hc, hf⟩ := hb.cells; have hn := hb.cellsN; (try simp only [World.size_alloc] at hc hf hz hn); (try simp only [World.size_setCell] at hc hf hz hn); (try simp only [World.size_drew] at hc hf hz hn))
      go_wp2_with fail
      go_ret
      exact ⟨rfl, (HG.out.trans HGC.out).trans (by repeat (first | with_reducible exact Gr.refl _ | with_reducible refine Gr.alloc ?_ _ | with_reducible refine Gr.drew ?_ | with_reducible refine Gr.trans ?_ (by assumption) | with_reducible refine Gr.setCell ?_ (by (try simp); (try omega)) _))⟩
    rcases tf (hornOk ⟨b0, b1, b2, b3, b4, b5⟩ (n + k) (extF f n fm) most' tol') with q2 | q2
    rotate_left
    · rw [q1] at HV1
      rw [q2] at HV2
      clear KEY q1 q2
      go_wp2_with fail
      (go_at_call 13; with_reducible refine (HV1.out _ (by repeat (first | with_reducible exact Gr.refl _ | with_reducible refine Gr.alloc ?_ _ | with_reducible refine Gr.drew ?_ | with_reducible refine Gr.trans ?_ (by assumption) | with_reducible refine Gr.setCell ?_ (by (try simp); (try omega)) _))).mono ?_; rintro e w' ⟨rfl, hb⟩; have hz := hb.le; obtain ⟨hc, hf⟩ := hb.cells; have hn := hb.cellsN; (try simp only [World.size_alloc] at hc hf hz hn); (try simp only [World.size_setCell] at hc hf hz hn); (try simp only [World.size_drew] at hc hf hz hn))
      go_wp2_with fail
      (go_at_call 13; with_reducible refine (HV2.out _ (by repeat (first | with_reducible exact Gr.refl _ | with_reducible refine Gr.alloc ?_ _ | with_reducible refine Gr.drew ?_ | with_reducible refine Gr.trans ?_ (by assumption) | with_reducible refine Gr.setCell ?_ (by (try simp); (try omega)) _))).mono ?_; rintro e w' ⟨rfl, hb⟩; have hz := hb.le; obtain ⟨hc, hf⟩ := hb.cells; have hn := hb.cellsN; (try simp only [World.size_alloc] at hc hf hz hn); (try simp only [World.size_setCell] at hc hf hz hn); (try simp only [World.size_drew] at hc hf hz hn))
      go_wp2_with fail
      go_ret
      exact ⟨rfl, (HG.out.trans HGC.out).trans (by repeat (first | with_reducible exact Gr.refl _ | with_reducible refine Gr.alloc ?_ _ | with_reducible refine Gr.drew ?_ | with_reducible refine Gr.trans ?_ (by assumption) | with_reducible refine Gr.setCell ?_ (by (try simp); (try omega)) _))⟩
    rcases tf (allIn ⟨v0, v1, v2, v3, v4, v5⟩ 48 6) with q3 | q3
    rotate_left
    · rw [q1] at HV1
      rw [q2] at HV2
      rw [q3] at HIV
      clear KEY q1 q2 q3
      go_wp2_with fail
      (go_at_call 13; with_reducible refine (HV1.out _ (by repeat (first | with_reducible exact Gr.refl _ | with_reducible refine Gr.alloc ?_ _ | with_reducible refine Gr.drew ?_ | with_reducible refine Gr.trans ?_ (by assumption) | with_reducible refine Gr.setCell ?_ (by (try simp); (try omega)) _))).mono ?_; rintro e w' ⟨rfl, hb⟩; have hz := hb.le; obtain ⟨hc, hf⟩ := hb.cells; have hn := hb.cellsN; (try simp only [World.size_alloc] at hc hf hz hn); (try simp only [World.size_setCell] at hc hf hz hn); (try simp only [World.size_drew] at hc hf hz hn))
      go_wp2_with fail
      (go_at_call 13; with_reducible refine (HV2.out _ (by repeat (first | with_reducible exact Gr.refl _ | with_reducible refine Gr.alloc ?_ _ | with_reducible refine Gr.drew ?_ | with_reducible refine Gr.trans ?_ (by assumption) | with_reducible refine Gr.setCell ?_ (by (try simp); (try omega)) _))).mono ?_; rintro e w' ⟨rfl, hb⟩; have hz := hb.le; obtain ⟨hc, hf⟩ := hb.cells; have hn := hb.cellsN; (try simp only [World.size_alloc] at hc hf hz hn); (try simp only [World.size_setCell] at hc hf hz hn); (try simp only [World.size_drew] at hc hf hz hn))
      go_wp2_with fail
      (go_at_call 22; with_reducible refine (HIV.out _).mono ?_; rintro e w' ⟨rfl, hb⟩; have hz := hb.le; obtain ⟨hc, hf⟩ := hb.cells; have hn := hb.cellsN; (try simp only [World.size_alloc] at hc hf hz hn); (try simp only [World.size_setCell] at hc hf hz hn); (try simp only [World.size_drew] at hc hf hz hn))
      go_wp2_with fail
      go_ret
      exact ⟨rfl, (HG.out.trans HGC.out).trans (by repeat (first | with_reducible exact Gr.refl _ | with_reducible refine Gr.alloc ?_ _ | with_reducible refine Gr.drew ?_ | with_reducible refine Gr.trans ?_ (by assumption) | with_reducible refine Gr.setCell ?_ (by (try simp); (try omega)) _))⟩
    obtain ⟨N1, N2, g1, g2, X1, S1, F1, X2, S2, F2, hN1, hN2, hF1, hF2, hhas, hB1, hB2, hcase⟩ := KEY.out (by simp [goodFV, q1, q3]) (by simp [goodFV, q2, q3]) wc HT2.out HR2.out HROW.out
    have HF1 := Lib.hid hF1; have HF2 := Lib.hid hF2; have HHAS := Lib.hid hhas; have HB1 := Lib.hid hB1; have HB2 := Lib.hid hB2; have HCASE := Lib.hid hcase
    rw [q1] at HV1
    rw [q2] at HV2
    rw [q3] at HIV
    clear KEY q1 q2 q3 hF1 hF2 hhas hB1 hB2 hcase
    go_wp2_with fail
    (go_at_call 13; with_reducible refine (HV1.out _ (by repeat (first | with_reducible exact Gr.refl _ | with_reducible refine Gr.alloc ?_ _ | with_reducible refine Gr.drew ?_ | with_reducible refine Gr.trans ?_ (by assumption) | with_reducible refine Gr.setCell ?_ (by (try simp); (try omega)) _))).mono ?_; rintro e w11 ⟨rfl, hb11⟩; have hz11 := hb11.le; obtain ⟨hc11, hf11⟩ := hb11.cells; have hn11 := hb11.cellsN; (try simp only [World.size_alloc] at hc11 hf11 hz11 hn11); (try simp only [World.size_setCell] at hc11 hf11 hz11 hn11); (try simp only [World.size_drew] at hc11 hf11 hz11 hn11))
    go_wp2_with fail
    (go_at_call 13; with_reducible refine (HV2.out _ (by repeat (first | with_reducible exact Gr.refl _ | with_reducible refine Gr.alloc ?_ _ | with_reducible refine Gr.drew ?_ | with_reducible refine Gr.trans ?_ (by assumption) | with_reducible refine Gr.setCell ?_ (by (try simp); (try omega)) _))).mono ?_; rintro e w12 ⟨rfl, hb12⟩; have hz12 := hb12.le; obtain ⟨hc12, hf12⟩ := hb12.cells; have hn12 := hb12.cellsN; (try simp only [World.size_alloc] at hc12 hf12 hz12 hn12); (try simp only [World.size_setCell] at hc12 hf12 hz12 hn12); (try simp only [World.size_drew] at hc12 hf12 hz12 hn12))
    go_wp2_with fail
    (go_at_call 22; with_reducible refine (HIV.out _).mono ?_; rintro e w13 ⟨rfl, hb13⟩; have hz13 := hb13.le; obtain ⟨hc13, hf13⟩ := hb13.cells; have hn13 := hb13.cellsN; (try simp only [World.size_alloc] at hc13 hf13 hz13 hn13); (try simp only [World.size_setCell] at hc13 hf13 hz13 hn13); (try simp only [World.size_drew] at hc13 hf13 hz13 hn13))
    go_wp2_with fail
    (go_at_call 17; with_reducible refine (HF1.out _ (by repeat (first | with_reducible exact Gr.refl _ | with_reducible refine Gr.alloc ?_ _ | with_reducible refine Gr.drew ?_ | with_reducible refine Gr.trans ?_ (by assumption) | with_reducible refine Gr.setCell ?_ (by (try simp); (try omega)) _))).mono ?_; rintro e w4 ⟨A1, c1, rfl, hr1, hb4⟩; have hz4 := hb4.le; obtain ⟨hc4, hf4⟩ := hb4.cells; have hn4 := hb4.cellsN; (try simp only [World.size_alloc] at hc4 hf4 hz4 hn4); (try simp only [World.size_setCell] at hc4 hf4 hz4 hn4); (try simp only [World.size_drew] at hc4 hf4 hz4 hn4))
    go_wp2_with fail
    (go_at_call 17; with_reducible refine (HF2.out _ (by repeat (first | with_reducible exact Gr.refl _ | with_reducible refine Gr.alloc ?_ _ | with_reducible refine Gr.drew ?_ | with_reducible refine Gr.trans ?_ (by assumption) | with_reducible refine Gr.setCell ?_ (by (try simp); (try omega)) _))).mono ?_; rintro e w5 ⟨A2, c2, rfl, hr2, hb5⟩; have hz5 := hb5.le; obtain ⟨hc5, hf5⟩ := hb5.cells; have hn5 := hb5.cellsN; (try simp only [World.size_alloc] at hc5 hf5 hz5 hn5); (try simp only [World.size_setCell] at hc5 hf5 hz5 hn5); (try simp only [World.size_drew] at hc5 hf5 hz5 hn5))
    have HG3 := Lib.hid (show Gr wc w5 from (by repeat (first | with_reducible exact Gr.refl _ | with_reducible refine Gr.alloc ?_ _ | with_reducible refine Gr.drew ?_ | with_reducible refine Gr.trans ?_ (by assumption) | with_reducible refine Gr.setCell ?_ (by (try simp); (try omega)) _)))
    have HRW1 := Lib.hid (hr1.keep hb5)
    have HRW2 := Lib.hid hr2
    have hz3 := HG3.out.le
    have k1 := HHA.out.keep HG3.out (by omega)
    have k2 := HHV.out.keep HG3.out (by omega)
    have k3 := HH12.out.keep HG3.out hB12l
    have K1 := Lib.hid k1; have K2 := Lib.hid k2; have K3 := Lib.hid k3
    clear k1 k2 k3 hr1 hr2 hb4 hz4 hc4 hf4 hn4 hb5 hz5 hc5 hf5 hn5 hb11 hz11 hc11 hf11 hn11 hb12 hz12 hc12 hf12 hn12 hb13 hz13 hc13 hf13 hn13 p0 p1 p2 p3 p4 p5 p6 p7 p8 u0 u1 u2 u3 u4 u5 r0 r1 r2 r3 r4 r5 r6 r7 r8 HV1 HV2 HIV HF1 HF2
    obtain ⟨W0, rfl⟩ : ∃ W0 : World, W0 = w5 := ⟨_, rfl⟩
    go_wp2_with fail
    go_loopw [17] (fun i wr => ∃ j : Nat, j ≤ N1 ∧ i = .int .i64 j ∧ Gr W0 wr) (fun i _ => N1 - (intOf i).toNat)
    case atStart => exact ⟨0, Nat.zero_le _, rfl, Gr.refl _⟩
    case round =>
      obtain ⟨j, hj, rfl, hg⟩ := hrel
      have HGW := Lib.hid hg
      have hzw := hg.size
      clear hg
      by_cases hlt : j < N1
      · obtain ⟨b, off, rfl, hbl, c0, c1'⟩ := (HRW1.out.keep HGW.out).two hlt
        have hh := has_any A2 N2 c2 g2 (g1 j 0) (g1 j 1) wr (HRW2.out.keep HGW.out) hN2
        rw [HHAS.out j hlt] at hh
        have HH := Lib.hid hh
        clear hh
        go_wp2_with (go_at_call 24; with_reducible refine (HH.out).mono ?_; rintro e w9 ⟨rfl, hb9⟩)
        go_roundw
        case rel => exact ⟨j + 1, by omega, by go_num, HGW.out.trans hb9⟩
        case measure => simp [intOf]; omega
      · obtain rfl : j = N1 := by omega
        have hh := HGW.out
        obtain ⟨p0, p1, p2, p3, p4, p5, p6, p7, p8⟩ := K1.out.keep HGW.out (by omega)
        obtain ⟨u0, u1, u2, u3, u4, u5⟩ := K2.out.keep HGW.out (by omega)
        obtain ⟨r0, r1, r2, r3, r4, r5, r6, r7, r8⟩ := K3.out.keep HGW.out (by omega)
        rcases HCASE.out with (rfl | rfl) | ⟨rfl, rfl⟩ | ⟨rfl, rfl, d0, d1, d2, d3, d4, d5, y0, y1, y2, y3, y4, y5, C, hd1, hd2, hcm, hC⟩
        · have HB1' := Lib.hid (fun W (h : Gr wr W) => HB1.out W (HG3.out.trans (HGW.out.trans h)))
          have HB2' := Lib.hid (fun W (h : Gr wr W) => HB2.out W (HG3.out.trans (HGW.out.trans h)))
          clear hh
          obtain ⟨wp, rfl⟩ : ∃ wp : World, wp = wr := ⟨_, rfl⟩
          go_wp2_with fail
          (go_at_call 20; with_reducible refine (HB1'.out _ (by repeat (first | with_reducible exact Gr.refl _ | with_reducible refine Gr.alloc ?_ _ | with_reducible refine Gr.drew ?_ | with_reducible refine Gr.trans ?_ (by assumption) | with_reducible refine Gr.setCell ?_ (by (try simp); (try omega)) _))).mono ?_; rintro e w6 ⟨rfl, hb6⟩; have hz6 := hb6.le; obtain ⟨hc6, hf6⟩ := hb6.cells; have hn6 := hb6.cellsN; (try simp only [World.size_alloc] at hc6 hf6 hz6 hn6); (try simp only [World.size_setCell] at hc6 hf6 hz6 hn6); (try simp only [World.size_drew] at hc6 hf6 hz6 hn6))
          go_wp2_with fail
          (go_at_call 20; with_reducible refine (HB2'.out _ (by repeat (first | with_reducible exact Gr.refl _ | with_reducible refine Gr.alloc ?_ _ | with_reducible refine Gr.drew ?_ | with_reducible refine Gr.trans ?_ (by assumption) | with_reducible refine Gr.setCell ?_ (by (try simp); (try omega)) _))).mono ?_; rintro e w7 ⟨rfl, hb7⟩; have hz7 := hb7.le; obtain ⟨hc7, hf7⟩ := hb7.cells; have hn7 := hb7.cellsN; (try simp only [World.size_alloc] at hc7 hf7 hz7 hn7); (try simp only [World.size_setCell] at hc7 hf7 hz7 hn7); (try simp only [World.size_drew] at hc7 hf7 hz7 hn7))
          go_wp2_with fail
          go_ret
          exact ⟨ret_bool (by first | rfl | (simp; done) | (simp; omega)), (HG.out.trans (HGC.out.trans (HG3.out.trans HGW.out))).trans (by repeat (first | with_reducible exact Gr.refl _ | with_reducible refine Gr.alloc ?_ _ | with_reducible refine Gr.drew ?_ | with_reducible refine Gr.trans ?_ (by assumption) | with_reducible refine Gr.setCell ?_ (by (try simp); (try omega)) _))⟩
        · have HB1' := Lib.hid (fun W (h : Gr wr W) => HB1.out W (HG3.out.trans (HGW.out.trans h)))
          have HB2' := Lib.hid (fun W (h : Gr wr W) => HB2.out W (HG3.out.trans (HGW.out.trans h)))
          clear hh
          obtain ⟨wp, rfl⟩ : ∃ wp : World, wp = wr := ⟨_, rfl⟩
          go_wp2_with fail
          (go_at_call 20; with_reducible refine (HB1'.out _ (by repeat (first | with_reducible exact Gr.refl _ | with_reducible refine Gr.alloc ?_ _ | with_reducible refine Gr.drew ?_ | with_reducible refine Gr.trans ?_ (by assumption) | with_reducible refine Gr.setCell ?_ (by (try simp); (try omega)) _))).mono ?_; rintro e w6 ⟨rfl, hb6⟩; have hz6 := hb6.le; obtain ⟨hc6, hf6⟩ := hb6.cells; have hn6 := hb6.cellsN; (try simp only [World.size_alloc] at hc6 hf6 hz6 hn6); (try simp only [World.size_setCell] at hc6 hf6 hz6 hn6); (try simp only [World.size_drew] at hc6 hf6 hz6 hn6))
          go_wp2_with fail
          (go_at_call 20; with_reducible refine (HB2'.out _ (by repeat (first | with_reducible exact Gr.refl _ | with_reducible refine Gr.alloc ?_ _ | with_reducible refine Gr.drew ?_ | with_reducible refine Gr.trans ?_ (by assumption) | with_reducible refine Gr.setCell ?_ (by (try simp); (try omega)) _))).mono ?_; rintro e w7 ⟨rfl, hb7⟩; have hz7 := hb7.le; obtain ⟨hc7, hf7⟩ := hb7.cells; have hn7 := hb7.cellsN; (try simp only [World.size_alloc] at hc7 hf7 hz7 hn7); (try simp only [World.size_setCell] at hc7 hf7 hz7 hn7); (try simp only [World.size_drew] at hc7 hf7 hz7 hn7))
          go_wp2_with fail
          go_ret
          exact ⟨ret_bool (by first | rfl | (simp; done) | (simp; omega)), (HG.out.trans (HGC.out.trans (HG3.out.trans HGW.out))).trans (by repeat (first | with_reducible exact Gr.refl _ | with_reducible refine Gr.alloc ?_ _ | with_reducible refine Gr.drew ?_ | with_reducible refine Gr.trans ?_ (by assumption) | with_reducible refine Gr.setCell ?_ (by (try simp); (try omega)) _))⟩
        · have HB1' := Lib.hid (fun W (h : Gr wr W) => HB1.out W (HG3.out.trans (HGW.out.trans h)))
          have HB2' := Lib.hid (fun W (h : Gr wr W) => HB2.out W (HG3.out.trans (HGW.out.trans h)))
          clear hh
          obtain ⟨wp, rfl⟩ : ∃ wp : World, wp = wr := ⟨_, rfl⟩
          go_wp2_with fail
          (go_at_call 20; with_reducible refine (HB1'.out _ (by repeat (first | with_reducible exact Gr.refl _ | with_reducible refine Gr.alloc ?_ _ | with_reducible refine Gr.drew ?_ | with_reducible refine Gr.trans ?_ (by assumption) | with_reducible refine Gr.setCell ?_ (by (try simp); (try omega)) _))).mono ?_; rintro e w6 ⟨rfl, hb6⟩; have hz6 := hb6.le; obtain ⟨hc6, hf6⟩ := hb6.cells; have hn6 := hb6.cellsN; (try simp only [World.size_alloc] at hc6 hf6 hz6 hn6); (try simp only [World.size_setCell] at hc6 hf6 hz6 hn6); (try simp only [World.size_drew] at hc6 hf6 hz6 hn6))
          go_wp2_with fail
          (go_at_call 20; with_reducible refine (HB2'.out _ (by repeat (first | with_reducible exact Gr.refl _ | with_reducible refine Gr.alloc ?_ _ | with_reducible refine Gr.drew ?_ | with_reducible refine Gr.trans ?_ (by assumption) | with_reducible refine Gr.setCell ?_ (by (try simp); (try omega)) _))).mono ?_; rintro e w7 ⟨rfl, hb7⟩; have hz7 := hb7.le; obtain ⟨hc7, hf7⟩ := hb7.cells; have hn7 := hb7.cellsN; (try simp only [World.size_alloc] at hc7 hf7 hz7 hn7); (try simp only [World.size_setCell] at hc7 hf7 hz7 hn7); (try simp only [World.size_drew] at hc7 hf7 hz7 hn7))
          go_wp2_with fail
          go_ret
          exact ⟨ret_bool (by first | rfl | (simp; done) | (simp; omega)), (HG.out.trans (HGC.out.trans (HG3.out.trans HGW.out))).trans (by repeat (first | with_reducible exact Gr.refl _ | with_reducible refine Gr.alloc ?_ _ | with_reducible refine Gr.drew ?_ | with_reducible refine Gr.trans ?_ (by assumption) | with_reducible refine Gr.setCell ?_ (by (try simp); (try omega)) _))⟩
        · have HD1 := Lib.hid (fun W (h : Gr wr W) => hd1 W (HG3.out.trans (HGW.out.trans h)))
          have HD2 := Lib.hid (fun W (h : Gr wr W) => hd2 W (HG3.out.trans (HGW.out.trans h)))
          have HCM := Lib.hid (fun W (h : Gr wr W) => hcm W (HG3.out.trans (HGW.out.trans h)))
          clear hd1 hd2 hcm
          have HB1' := Lib.hid (fun W (h : Gr wr W) => HB1.out W (HG3.out.trans (HGW.out.trans h)))
          have HB2' := Lib.hid (fun W (h : Gr wr W) => HB2.out W (HG3.out.trans (HGW.out.trans h)))
          clear hh
          obtain ⟨wp, rfl⟩ : ∃ wp : World, wp = wr := ⟨_, rfl⟩
          go_wp2_with fail
          (go_at_call 20; with_reducible refine (HB1'.out _ (by repeat (first | with_reducible exact Gr.refl _ | with_reducible refine Gr.alloc ?_ _ | with_reducible refine Gr.drew ?_ | with_reducible refine Gr.trans ?_ (by assumption) | with_reducible refine Gr.setCell ?_ (by (try simp); (try omega)) _))).mono ?_; rintro e w6 ⟨rfl, hb6⟩; have hz6 := hb6.le; obtain ⟨hc6, hf6⟩ := hb6.cells; have hn6 := hb6.cellsN; (try simp only [World.size_alloc] at hc6 hf6 hz6 hn6); (try simp only [World.size_setCell] at hc6 hf6 hz6 hn6); (try simp only [World.size_drew] at hc6 hf6 hz6 hn6))
          go_wp2_with fail
          (go_at_call 20; with_reducible refine (HB2'.out _ (by repeat (first | with_reducible exact Gr.refl _ | with_reducible refine Gr.alloc ?_ _ | with_reducible refine Gr.drew ?_ | with_reducible refine Gr.trans ?_ (by assumption) | with_reducible refine Gr.setCell ?_ (by (try simp); (try omega)) _))).mono ?_; rintro e w7 ⟨rfl, hb7⟩; have hz7 := hb7.le; obtain ⟨hc7, hf7⟩ := hb7.cells; have hn7 := hb7.cellsN; (try simp only [World.size_alloc] at hc7 hf7 hz7 hn7); (try simp only [World.size_setCell] at hc7 hf7 hz7 hn7); (try simp only [World.size_drew] at hc7 hf7 hz7 hn7))
          go_wp2_with fail
          (go_at_call 26; with_reducible refine (HD1.out _ (by repeat (first | with_reducible exact Gr.refl _ | with_reducible refine Gr.alloc ?_ _ | with_reducible refine Gr.drew ?_ | with_reducible refine Gr.trans ?_ (by assumption) | with_reducible refine Gr.setCell ?_ (by (try simp); (try omega)) _))).mono ?_; rintro e w8 ⟨rfl, hb8⟩; have hz8 := hb8.le; obtain ⟨hc8, hf8⟩ := hb8.cells; have hn8 := hb8.cellsN; (try simp only [World.size_alloc] at hc8 hf8 hz8 hn8); (try simp only [World.size_setCell] at hc8 hf8 hz8 hn8); (try simp only [World.size_drew] at hc8 hf8 hz8 hn8))
          go_wp2_with fail
          (go_at_call 26; with_reducible refine (HD2.out _ (by repeat (first | with_reducible exact Gr.refl _ | with_reducible refine Gr.alloc ?_ _ | with_reducible refine Gr.drew ?_ | with_reducible refine Gr.trans ?_ (by assumption) | with_reducible refine Gr.setCell ?_ (by (try simp); (try omega)) _))).mono ?_; rintro e w9 ⟨rfl, hb9⟩; have hz9 := hb9.le; obtain ⟨hc9, hf9⟩ := hb9.cells; have hn9 := hb9.cellsN; (try simp only [World.size_alloc] at hc9 hf9 hz9 hn9); (try simp only [World.size_setCell] at hc9 hf9 hz9 hn9); (try simp only [World.size_drew] at hc9 hf9 hz9 hn9))
          go_wp2_with fail
          (go_at_call 27; with_reducible refine (HCM.out _ (by repeat (first | with_reducible exact Gr.refl _ | with_reducible refine Gr.alloc ?_ _ | with_reducible refine Gr.drew ?_ | with_reducible refine Gr.trans ?_ (by assumption) | with_reducible refine Gr.setCell ?_ (by (try simp); (try omega)) _))).mono ?_; rintro e w10 ⟨rfl, hb10⟩; have hz10 := hb10.le; obtain ⟨hc10, hf10⟩ := hb10.cells; have hn10 := hb10.cellsN; (try simp only [World.size_alloc] at hc10 hf10 hz10 hn10); (try simp only [World.size_setCell] at hc10 hf10 hz10 hn10); (try simp only [World.size_drew] at hc10 hf10 hz10 hn10))
          go_wp2_with fail
          go_ret
          exact ⟨ret_bool (by first | rfl | (simp; done) | (simp; omega)), (HG.out.trans (HGC.out.trans (HG3.out.trans HGW.out))).trans (by repeat (first | with_reducible exact Gr.refl _ | with_reducible refine Gr.alloc ?_ _ | with_reducible refine Gr.drew ?_ | with_reducible refine Gr.trans ?_ (by assumption) | with_reducible refine Gr.setCell ?_ (by (try simp); (try omega)) _))⟩
end Go.Proofs.YtbaopniofhbjdaaDoor
