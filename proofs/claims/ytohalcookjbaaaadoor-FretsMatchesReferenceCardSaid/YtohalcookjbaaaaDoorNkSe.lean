/-
  frets.Sound at a fret.
-/
import Derived.Test.YtohalcookjbaaaaDoorNkSd
namespace Go.Proofs.YtohalcookjbaaaaDoor
open Go.RowKit

set_option maxRecDepth 100000 in
set_option maxHeartbeats 16000000 in
theorem fsound_fret (O Q : Option Addr) (no co nf cq : Nat) (sp tl : Int) (o q : Nat → Nat → Int) (s k : Nat) (w : World) (hP : Primes w) (hO : RowsAt w 6 O no o) (hQ : RowsAt w 6 Q nf q) (hno : no ≤ 9223372036854775807) (hnf : nf ≤ 9223372036854775807) (hok : neckB no o nf q sp tl = true) (hs : s < no) (hk : k < nf) :
    Calls Tryd.prog 20 #[.agg #[.slice O no co, .slice Q nf cq, .int .i64 sp, .int .i64 tl], .agg #[.int .i64 (s : Int), .int .i64 ((k : Int) + 1)]] w fun e w' => e = .returned (.tuple #[.agg #[.int .i64 (o s 0 + q k 0), .int .i64 (o s 1 + q k 1), .int .i64 (o s 2 + q k 2), .int .i64 (o s 3 + q k 3), .int .i64 (o s 4 + q k 4), .int .i64 (o s 5 + q k 5)], .int .i64 0]) ∧ Gr w w' := by
  have hV := fun W (g : Gr w W) => neckValid_any O Q no co nf cq sp tl o q W (hP.keep g) (hO.keep g) (hQ.keep g) hno hnf
  have hE := fun W => exists_any O Q no co nf cq sp tl s ((k : Int) + 1) W
  rw [exB_yes ⟨by omega, by omega, by omega, by omega⟩] at hE
  have hres := soundF_in hok hs (show k + 1 ≤ nf by omega)
  have hma := (opensB_at (neckB_parts hok).2.2 hs).1
  have hmb := (risesB_at (neckB_parts hok).2.1 hk).1
  simp only [soundF, V6.add, rowV] at hres hma hmb
  have hM := fun W => mul_ok (o s 0) (o s 1) (o s 2) (o s 3) (o s 4) (o s 5) (q k 0) (q k 1) (q k 2) (q k 3) (q k 4) (q k 5) W hma hmb hres
  clear hres hma hmb
  have hlim := (neckB_parts hok).1
  rw [hok] at hV
  have HV := Lib.hid hV; have HE := Lib.hid hE; have HM := Lib.hid hM
  have HO := Lib.hid hO; have HQ := Lib.hid hQ
  have hs0 : (0 : Int) ≤ (s : Int) := by omega
  have hs1 : (s : Int) < (no : Int) := by omega
  have hk0 : (0 : Int) ≤ (k : Int) := by omega
  have hk1 : (k : Int) < (nf : Int) := by omega
  have hke : ((k : Int) + 1 == 0) = false := by simp; omega
  have hwk : IntKind.i64.wrap ((k : Int) + 1 - 1) = (k : Int) := (IntWalk.i64_in _ ⟨by omega, by omega⟩).trans (by omega)
  have hwk2 : IntKind.i64.wrap (k : Int) = (k : Int) := IntWalk.i64_in _ ⟨by omega, by omega⟩
  clear hV hE hM hok hP hO hQ hlim
  go_enter Tryd.func20, Tryd.ntmps20
  go_upto_region 1 with fail
  have HB : Hid (NeckAt ((w.alloc (.cells #[.slice O no co, .slice Q nf cq, .int .i64 sp, .int .i64 tl] 24)).alloc (.cells #[.int .i64 (s : Int), .int .i64 ((k : Int) + 1)] 37)) w.heap.size O Q no co nf cq sp tl) := Lib.hid ((neckAt_new w O Q no co nf cq sp tl 24).keep ((Gr.refl _).alloc _))
  have hf0 : ((w.alloc (.cells #[.slice O no co, .slice Q nf cq, .int .i64 sp, .int .i64 tl] 24)).alloc (.cells #[.int .i64 (s : Int), .int .i64 ((k : Int) + 1)] 37)).cell? ⟨w.heap.size + 1, 0, none⟩ = some (.int .i64 (s : Int)) := by simp [go_sem]
  have hf1 : ((w.alloc (.cells #[.slice O no co, .slice Q nf cq, .int .i64 sp, .int .i64 tl] 24)).alloc (.cells #[.int .i64 (s : Int), .int .i64 ((k : Int) + 1)] 37)).cell? ⟨w.heap.size + 1, 1, none⟩ = some (.int .i64 ((k : Int) + 1)) := by simp [go_sem]
  have hgX : Gr w ((w.alloc (.cells #[.slice O no co, .slice Q nf cq, .int .i64 sp, .int .i64 tl] 24)).alloc (.cells #[.int .i64 (s : Int), .int .i64 ((k : Int) + 1)] 37)) := ((Gr.refl _).alloc _).alloc _
  have hsz : ((w.alloc (.cells #[.slice O no co, .slice Q nf cq, .int .i64 sp, .int .i64 tl] 24)).alloc (.cells #[.int .i64 (s : Int), .int .i64 ((k : Int) + 1)] 37)).heap.size = w.heap.size + 1 + 1 := by simp
  generalize hX0 : ((w.alloc (.cells #[.slice O no co, .slice Q nf cq, .int .i64 sp, .int .i64 tl] 24)).alloc (.cells #[.int .i64 (s : Int), .int .i64 ((k : Int) + 1)] 37)) = X0 at *
  clear hX0
  obtain ⟨hl0, b0, b1, b2, b3⟩ := HB.out
  go_wp2_with fail
  (go_at_call 13; with_reducible refine (HV.out _ (hgX.trans (by repeat (first | with_reducible exact Gr.refl _ | with_reducible refine Gr.alloc ?_ _ | with_reducible refine Gr.drew ?_ | with_reducible refine Gr.trans ?_ (by assumption) | with_reducible refine Gr.setCell ?_ (by (try simp); (try omega)) _)))).mono ?_; rintro e w' ⟨rfl, hb⟩; have hz := hb.le; obtain ⟨hc, hf⟩ := hb.cells; have hn := hb.cellsN; (try simp only [World.size_alloc] at hc hf hz hn); (try simp only [World.size_setCell] at hc hf hz hn); (try simp only [World.size_drew] at hc hf hz hn))
  go_wp2_with fail
  (go_at_call 42; with_reducible refine (HE.out _).mono ?_; rintro e w' ⟨rfl, hb⟩; have hz := hb.le; obtain ⟨hc, hf⟩ := hb.cells; have hn := hb.cellsN; (try simp only [World.size_alloc] at hc hf hz hn); (try simp only [World.size_setCell] at hc hf hz hn); (try simp only [World.size_drew] at hc hf hz hn))
  have hGX : Gr X0 w' := (by repeat (first | with_reducible exact Gr.refl _ | with_reducible refine Gr.alloc ?_ _ | with_reducible refine Gr.drew ?_ | with_reducible refine Gr.trans ?_ (by assumption) | with_reducible refine Gr.setCell ?_ (by (try simp); (try omega)) _))
  have hz4 : ∀ o, o < 6 → w'.cell? ⟨w.heap.size + 1 + 1, o, none⟩ = some (.int .i64 0) := by
    intro o' ho
    rcases (show o' = 0 ∨ o' = 1 ∨ o' = 2 ∨ o' = 3 ∨ o' = 4 ∨ o' = 5 by omega) with rfl | rfl | rfl | rfl | rfl | rfl <;> simp [go_sem, *]
  have hzf : ∀ o, w'.frozen? ⟨w.heap.size + 1 + 1, o, none⟩ = false := by intro o'; simp [go_sem, *]
  have hzn : cellsN w' (w.heap.size + 1 + 1) = 6 := by (try simp [go_sem, *]); rw [← hsz]; exact cellsN_alloc_new _ _ _ _
  have hzl : w.heap.size + 1 + 1 < w'.heap.size := by omega
  have hr1 := (HO.out.keep hgX).six hs
  obtain ⟨b, off, hbo, hbl, c0, c1, c2, c3, c4, c5⟩ := hr1
  subst hbo
  clear hb hz hc hf hn
  obtain ⟨wo, rfl⟩ : ∃ wo : World, wo = w' := ⟨_, rfl⟩
  have hr2 := (HQ.out.keep hgX).six hk
  obtain ⟨b', off', hbo, hbl', e0, e1, e2, e3, e4, e5⟩ := hr2
  subst hbo
  have hf0' := (Below.cell (p := ⟨w.heap.size + 1, 0, none⟩) hGX (show w.heap.size + 1 < X0.heap.size by omega)).trans hf0
  have hf1' := (Below.cell (p := ⟨w.heap.size + 1, 1, none⟩) hGX (show w.heap.size + 1 < X0.heap.size by omega)).trans hf1
  have hEQ := eqFret (s : Int) ((k : Int) + 1) (s : Int) 0 wo
  rw [show (((s : Int) == (s : Int)) && ((k : Int) + 1 == 0)) = false by simp; omega] at hEQ
  have hz40 := hz4 0 (by omega); have hz41 := hz4 1 (by omega); have hz42 := hz4 2 (by omega); have hz43 := hz4 3 (by omega); have hz44 := hz4 4 (by omega); have hz45 := hz4 5 (by omega)
  clear hz4
  go_upto_region 5 with fail
  clear hEQ hf0' hf1'
  go_cut [5] (fun sv wx => sv = .int .i64 0 ∧ SixV wx (w.heap.size + 1 + 1) (.int .i64 (o s 0 + q k 0)) (.int .i64 (o s 1 + q k 1)) (.int .i64 (o s 2 + q k 2)) (.int .i64 (o s 3 + q k 3)) (.int .i64 (o s 4 + q k 4)) (.int .i64 (o s 5 + q k 5)) ∧ Gr w wx)
  case first =>
    refine wp_region_held_drew (S := fun wx => (∀ b o, (⟨min (b + 1) X0.heap.size, 0, none⟩ : Addr) = ⟨b + 1, 0, none⟩ → wx.cell? ⟨b, o, none⟩ = X0.cell? ⟨b, o, none⟩) ∧ Gr X0 wx) (by kernel_rfl) (held_of hGX.drew) (fun hHeld => ?_)
    (refine take_at (i := 0) (oi := _) (d := some 27) (v := ?_) rfl rfl (by kernel_rfl) (by kernel_rfl) (by kernel_rfl) (fun _ _ _ h => h) (Or.inl ⟨by rfl, ?_⟩) hHeld ?_; rotate_left; next => (intro w hSw; (try dsimp only at hSw); go_simp; try with_reducible rfl))
    try simp only [Act.put, List.setIfInBounds_toArray, List.set_cons_zero, List.set_cons_succ]
    (refine take_at (i := 1) (oi := _) (d := some 28) (v := ?_) rfl rfl (by kernel_rfl) (by kernel_rfl) (by kernel_rfl) (fun _ _ _ h => h) (Or.inl ⟨by rfl, ?_⟩) hHeld ?_; rotate_left; next => (intro w hSw; (try dsimp only at hSw); go_simp; try with_reducible rfl))
    try simp only [Act.put, List.setIfInBounds_toArray, List.set_cons_zero, List.set_cons_succ]
    (refine take_at (i := 2) (oi := _) (d := some 29) (v := ?_) rfl rfl (by kernel_rfl) (by kernel_rfl) (by kernel_rfl) (fun _ _ _ h => h) (Or.inl ⟨by rfl, ?_⟩) hHeld ?_; rotate_left; next => (intro w hSw; (try dsimp only at hSw); go_simp; try with_reducible rfl))
    try simp only [Act.put, List.setIfInBounds_toArray, List.set_cons_zero, List.set_cons_succ]
    (refine take_at (i := 3) (oi := _) (d := some 30) (v := ?_) rfl rfl (by kernel_rfl) (by kernel_rfl) (by kernel_rfl) (fun _ _ _ h => h) (Or.inl ⟨by rfl, ?_⟩) hHeld ?_; rotate_left; next => (intro w hSw; (try dsimp only at hSw); go_simp; try with_reducible rfl))
    try simp only [Act.put, List.setIfInBounds_toArray, List.set_cons_zero, List.set_cons_succ]
    (refine take_at (i := 4) (oi := _) (d := some 31) (v := ?_) rfl rfl (by kernel_rfl) (by kernel_rfl) (by kernel_rfl) (fun _ _ _ h => h) (Or.inl ⟨by rfl, ?_⟩) hHeld ?_; rotate_left; next => (intro w hSw; (try dsimp only at hSw); go_simp; try with_reducible rfl))
    try simp only [Act.put, List.setIfInBounds_toArray, List.set_cons_zero, List.set_cons_succ]
    (refine take_at (i := 5) (oi := _) (d := some 32) (v := ?_) rfl rfl (by kernel_rfl) (by kernel_rfl) (by kernel_rfl) (fun _ _ _ h => h) (Or.inl ⟨by rfl, ?_⟩) hHeld ?_; rotate_left; next => (intro w hSw; (try dsimp only at hSw); go_simp; try with_reducible rfl))
    try simp only [Act.put, List.setIfInBounds_toArray, List.set_cons_zero, List.set_cons_succ]
    (refine take_at (i := 6) (oi := _) (d := some 33) (v := ?_) rfl rfl (by kernel_rfl) (by kernel_rfl) (by kernel_rfl) (fun _ _ _ h => h) (Or.inl ⟨by rfl, ?_⟩) hHeld ?_; rotate_left; next => (intro w hSw; (try dsimp only at hSw); go_simp; try with_reducible rfl))
    try simp only [Act.put, List.setIfInBounds_toArray, List.set_cons_zero, List.set_cons_succ]
    (refine take_at (i := 7) (oi := _) (d := some 34) (v := ?_) rfl rfl (by kernel_rfl) (by kernel_rfl) (by kernel_rfl) (fun _ _ _ h => h) (Or.inl ⟨by rfl, ?_⟩) hHeld ?_; rotate_left; next => (intro w hSw; (try dsimp only at hSw); go_simp; try with_reducible rfl))
    try simp only [Act.put, List.setIfInBounds_toArray, List.set_cons_zero, List.set_cons_succ]
    (refine take_at (i := 8) (oi := _) (d := some 35) (v := ?_) rfl rfl (by kernel_rfl) (by kernel_rfl) (by kernel_rfl) (fun _ _ _ h => h) (Or.inl ⟨by rfl, ?_⟩) hHeld ?_; rotate_left; next => (intro w hSw; (try dsimp only at hSw); go_simp; try with_reducible rfl))
    try simp only [Act.put, List.setIfInBounds_toArray, List.set_cons_zero, List.set_cons_succ]
    (refine take_at (i := 9) (oi := _) (d := some 36) (v := ?_) rfl rfl (by kernel_rfl) (by kernel_rfl) (by kernel_rfl) (fun _ _ _ h => h) (Or.inl ⟨by rfl, ?_⟩) hHeld ?_; rotate_left; next => (intro w hSw; (try dsimp only at hSw); go_simp; try with_reducible rfl))
    try simp only [Act.put, List.setIfInBounds_toArray, List.set_cons_zero, List.set_cons_succ]
    (refine take_at (i := 10) (oi := _) (d := some 37) (v := ?_) rfl rfl (by kernel_rfl) (by kernel_rfl) (by kernel_rfl) (fun _ _ _ h => h) (Or.inl ⟨by rfl, ?_⟩) hHeld ?_; rotate_left; next => (intro w hSw; (try dsimp only at hSw); go_simp; try with_reducible rfl))
    try simp only [Act.put, List.setIfInBounds_toArray, List.set_cons_zero, List.set_cons_succ]
    (refine take_at (i := 11) (oi := _) (d := some 38) (v := ?_) rfl rfl (by kernel_rfl) (by kernel_rfl) (by kernel_rfl) (fun _ _ _ h => h) (Or.inl ⟨by rfl, ?_⟩) hHeld ?_; rotate_left; next => (intro w hSw; (try dsimp only at hSw); go_simp; try with_reducible rfl))
    try simp only [Act.put, List.setIfInBounds_toArray, List.set_cons_zero, List.set_cons_succ]
    (refine take_at (i := 12) (oi := _) (d := some 39) (v := ?_) rfl rfl (by kernel_rfl) (by kernel_rfl) (by kernel_rfl) (fun _ _ _ h => h) (Or.inl ⟨by rfl, ?_⟩) hHeld ?_; rotate_left; next => (intro w hSw; (try dsimp only at hSw); go_simp; try with_reducible rfl))
    try simp only [Act.put, List.setIfInBounds_toArray, List.set_cons_zero, List.set_cons_succ]
    (refine wpAnyH_ready (rs := [13]) (by kernel_rfl) (by simp) (AllReadyH.cons (o := _) rfl (fun K hK => ?_) AllReadyH.nil); go_simp; go_at_call 29; refine (HM.out _).mono ?_; rintro e w' ⟨rfl, hb⟩; have hzx := hb.le; obtain ⟨hcx, hfx⟩ := hb.cells; have hnx := hb.cellsN; (try simp only [World.size_drew] at hcx hfx hzx hnx); refine hK.out _ _ (held_call hHeld hb) (fun hHeld => ?_); clear hK K hb)
    try simp only [Act.put, List.setIfInBounds_toArray, List.set_cons_zero, List.set_cons_succ]
    (refine take_at (i := 14) (oi := _) (d := some 41) (v := ?_) rfl rfl (by kernel_rfl) (by kernel_rfl) (by kernel_rfl) (fun _ _ _ h => h) (Or.inl ⟨by rfl, ?_⟩) hHeld ?_; rotate_left; next => (intro w hSw; (try dsimp only at hSw); go_simp; try with_reducible rfl))
    try simp only [Act.put, List.setIfInBounds_toArray, List.set_cons_zero, List.set_cons_succ]
    (refine take_at (i := 15) (oi := _) (d := some 42) (v := ?_) rfl rfl (by kernel_rfl) (by kernel_rfl) (by kernel_rfl) (fun _ _ _ h => h) (Or.inl ⟨by rfl, ?_⟩) hHeld ?_; rotate_left; next => (intro w hSw; (try dsimp only at hSw); go_simp; try with_reducible rfl))
    try simp only [Act.put, List.setIfInBounds_toArray, List.set_cons_zero, List.set_cons_succ]
    (refine wpAnyH_ready (rs := [16]) (by kernel_rfl) (by simp) (AllReadyH.cons (o := _) rfl (fun K hK => ?_) AllReadyH.nil); go_simp; refine hK.out _ _ (by (try dsimp only); (first | with_reducible exact held_drew _ | with_reducible exact held_call (by assumption) (by assumption) | with_reducible exact held_alloc (by assumption) _ | with_reducible exact held_allocd (by assumption) _ | ((repeat (with_reducible refine held_set ?_ (by (try simp); (try omega)) _)); (first | with_reducible assumption | with_reducible exact held_call (by assumption) (by assumption))))) (fun hHeld => ?_); clear hK K)
    try simp only [Act.put, List.setIfInBounds_toArray, List.set_cons_zero, List.set_cons_succ]
    (refine take_at (i := 17) (oi := _) (d := some 5) (v := ?_) rfl rfl (by kernel_rfl) (by kernel_rfl) (by kernel_rfl) (fun _ _ _ h => h) (Or.inl ⟨by rfl, ?_⟩) hHeld ?_; rotate_left; next => (intro w hSw; (try dsimp only at hSw); go_simp; try with_reducible rfl))
    try simp only [Act.put, List.setIfInBounds_toArray, List.set_cons_zero, List.set_cons_succ]
    refine wpAnyH_done (by kernel_rfl) ?_ _
    go_wp2_with fail
    go_meet
    exact ⟨rfl, ⟨by simp [go_sem, *], by simp [go_sem, *], by simp [go_sem, *], by simp [go_sem, *], by simp [go_sem, *], by simp [go_sem, *]⟩, hgX.trans (held_gr (by assumption))⟩
  case rest =>
    obtain ⟨rfl, ⟨s0, s1, s2, s3, s4, s5⟩, hgc⟩ := hcut
    go_wp2_with fail
    exact bodyPost_ret (v := .tuple #[.agg #[.int .i64 (o s 0 + q k 0), .int .i64 (o s 1 + q k 1), .int .i64 (o s 2 + q k 2), .int .i64 (o s 3 + q k 3), .int .i64 (o s 4 + q k 4), .int .i64 (o s 5 + q k 5)], .int .i64 0]) (by simp [results, Tryd.results20, go_sem, s0, s1, s2, s3, s4, s5]) rfl ⟨rfl, hgc⟩
end Go.Proofs.YtohalcookjbaaaaDoor
