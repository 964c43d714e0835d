/-
  The law FretsChords.
-/
import Derived.Test.YtohalcookjbaaaaDoorNkPl
namespace Go.Proofs.YtohalcookjbaaaaDoor
open Go.RowKit

theorem Drawn.at_ {os : List (List (Nat × Nat))} {l : List (Nat × Nat)} (h : Drawn os l) : ∀ {i : Nat} {o : List (Nat × Nat)}, os[i]? = some o → ∃ x, l[i]? = some x ∧ x ∈ o := by
  induction h with
  | nil => intro i o h; simp at h
  | @cons o' os' f l' hf hd ih =>
    intro i o h
    cases i with
    | zero => simp at h; subst h; exact ⟨f, by simp, hf⟩
    | succ i => obtain ⟨x, h1, h2⟩ := ih (by simpa using h); exact ⟨x, by simpa using h1, h2⟩
/-- What is known of a chord that can be played. -/
theorem drawn_facts {no nf n : Nat} {o q : Nat → Nat → Int} {tl : Int} {f : Nat → Nat → Int} {l : List (Nat × Nat)} (h : Drawn (optsF (findF no o nf q tl) f n) l) : l.length = n ∧ ∀ i, i < n → ∃ s k : Nat, l[i]? = some (s, k) ∧ frF l i 0 = (s : Int) ∧ frF l i 1 = (k : Int) ∧ s < no ∧ k ≤ nf ∧ playsF o q tl (rowV f i) s k = true := by
  refine ⟨by rw [h.len, optsF_len], fun i hi => ?_⟩
  obtain ⟨⟨s, k⟩, h1, h2⟩ := h.at_ (optsF_at _ f hi)
  obtain ⟨h3, h4, h5⟩ := mem_onAll.1 h2
  exact ⟨s, k, h1, by simp [frF, List.getD, h1], by simp [frF, List.getD, h1], h3, Nat.lt_succ_iff.1 h4, h5⟩
theorem allEx_of {no nf n : Nat} {f : Nat → Nat → Int} (h : ∀ i, i < n → ∃ s k : Nat, f i 0 = (s : Int) ∧ f i 1 = (k : Int) ∧ s < no ∧ k ≤ nf) : allEx no nf f n = true := by
  unfold allEx
  induction n with
  | zero => rfl
  | succ n ih =>
    simp only [allN, Bool.and_eq_true]
    refine ⟨ih fun i hi => h i (by omega), ?_⟩
    obtain ⟨s, k, h1, h2, h3, h4⟩ := h n (by omega)
    rw [h1, h2]
    exact exB_yes ⟨by omega, by omega, by omega, by omega⟩
theorem chordOk_parts {no nf n : Nat} {o q f : Nat → Nat → Int} {sp tl : Int} (h : chordOk no o nf q sp tl f n = true) : neckB no o nf q sp tl = true ∧ n ≤ 12 ∧ vecsB f n = true := by
  simp only [chordOk, Bool.and_eq_true, decide_eq_true_eq] at h
  exact h

set_option maxRecDepth 100000 in
set_option maxHeartbeats 16000000 in
theorem lchords_few (O Q : Option Addr) (no co nf cq : Nat) (sp tl : Int) (A : Option Addr) (n c : Nat) (w : World) (hP : Primes w) (hL : Logs w) (hfew : fewB no nf n = false) :
    Calls Tryd.prog 5 #[.agg #[.slice O no co, .slice Q nf cq, .int .i64 sp, .int .i64 tl], .slice A n c] w fun e w' => e = .returned (.bool true) ∧ Gr w w' := by
  have HP := Lib.hid hP; have HL := Lib.hid hL
  have hF := fun W => few_any O Q A no co nf cq n c sp tl W
  rw [hfew] at hF
  have HF := Lib.hid hF
  clear hP hL hF hfew
  go_enter Tryd.func5, Tryd.ntmps5
  go_wp2_with fail
  (go_at_call 11; with_reducible refine (fhead_any _ (HP.out.keep (by repeat (first | with_reducible exact Gr.refl _ | with_reducible refine Gr.alloc ?_ _ | with_reducible refine Gr.drew ?_ | with_reducible refine Gr.trans ?_ (by assumption) | with_reducible refine Gr.setCell ?_ (by (try simp); (try omega)) _))) (HL.out.keep (by repeat (first | with_reducible exact Gr.refl _ | with_reducible refine Gr.alloc ?_ _ | with_reducible refine Gr.drew ?_ | with_reducible refine Gr.trans ?_ (by assumption) | with_reducible refine Gr.setCell ?_ (by (try simp); (try omega)) _)))).mono ?_; rintro e w' ⟨rfl, hb⟩; have hz := hb.le; obtain ⟨hc, hf⟩ := hb.cells; have hn := hb.cellsN; (try simp only [World.size_alloc] at hc hf hz hn); (try simp only [World.size_setCell] at hc hf hz hn); (try simp only [World.size_drew] at hc hf hz hn))
  go_wp2_with fail
  (go_at_call 12; with_reducible refine (HF.out _).mono ?_; rintro e w' ⟨rfl, hb⟩; have hz := hb.le; obtain ⟨hc, hf⟩ := hb.cells; have hn := hb.cellsN; (try simp only [World.size_alloc] at hc hf hz hn); (try simp only [World.size_setCell] at hc hf hz hn); (try simp only [World.size_drew] at hc hf hz hn))
  go_wp2_with fail
  go_ret
  exact ⟨rfl, (by repeat (first | with_reducible exact Gr.refl _ | with_reducible refine Gr.alloc ?_ _ | with_reducible refine Gr.drew ?_ | with_reducible refine Gr.trans ?_ (by assumption) | with_reducible refine Gr.setCell ?_ (by (try simp); (try omega)) _))⟩
set_option maxRecDepth 100000 in
set_option maxHeartbeats 16000000 in
theorem lchords_err (O Q : Option Addr) (no co nf cq : Nat) (sp tl : Int) (o q : Nat → Nat → Int) (A : Option Addr) (n c : Nat) (f : Nat → Nat → Int) (w : World) (hP : Primes w) (hL : Logs w) (hO : RowsAt w 6 O no o) (hQ : RowsAt w 6 Q nf q) (hA : RowsAt w 6 A n f) (hno : no ≤ 9223372036854775807) (hnf : nf ≤ 9223372036854775807) (hn : n ≤ 9223372036854775807) (hfew : fewB no nf n = true)
    (h1 : chordL no o nf q sp tl f n = []) (h2 : chordE no o nf q sp tl f n = 1 ∨ chordE no o nf q sp tl f n = 2 ∨ chordE no o nf q sp tl f n = 4 ∨ chordE no o nf q sp tl f n = 20) :
    Calls Tryd.prog 5 #[.agg #[.slice O no co, .slice Q nf cq, .int .i64 sp, .int .i64 tl], .slice A n c] w fun e w' => e = .returned (.bool true) ∧ Gr w w' := by
  have HP := Lib.hid hP; have HL := Lib.hid hL
  have hF := fun W => few_any O Q A no co nf cq n c sp tl W
  rw [hfew] at hF
  have HF := Lib.hid hF
  have hC := fun W (g : Gr w W) => fchord_any O Q no co nf cq sp tl o q A n c f W (hP.keep g) (hL.keep g) (hO.keep g) (hQ.keep g) (hA.keep g) hno hnf hn
  rw [h1] at hC
  rcases h2 with h2 | h2 | h2 | h2
  all_goals
    rw [h2] at hC
    have HC := Lib.hid (fun W g => (hC W g).mono fun e w' h => frR_lit (n := 0) h rfl)
    clear hP hL hF hfew hC h1 h2 hO hQ hA
    go_enter Tryd.func5, Tryd.ntmps5
    go_wp2_with fail
    (go_at_call 11; with_reducible refine (fhead_any _ (HP.out.keep (by repeat (first | with_reducible exact Gr.refl _ | with_reducible refine Gr.alloc ?_ _ | with_reducible refine Gr.drew ?_ | with_reducible refine Gr.trans ?_ (by assumption) | with_reducible refine Gr.setCell ?_ (by (try simp); (try omega)) _))) (HL.out.keep (by repeat (first | with_reducible exact Gr.refl _ | with_reducible refine Gr.alloc ?_ _ | with_reducible refine Gr.drew ?_ | with_reducible refine Gr.trans ?_ (by assumption) | with_reducible refine Gr.setCell ?_ (by (try simp); (try omega)) _)))).mono ?_; rintro e w' ⟨rfl, hb⟩; have hz := hb.le; obtain ⟨hc, hf⟩ := hb.cells; have hn := hb.cellsN; (try simp only [World.size_alloc] at hc hf hz hn); (try simp only [World.size_setCell] at hc hf hz hn); (try simp only [World.size_drew] at hc hf hz hn))
    go_wp2_with fail
    (go_at_call 12; with_reducible refine (HF.out _).mono ?_; rintro e w' ⟨rfl, hb⟩; have hz := hb.le; obtain ⟨hc, hf⟩ := hb.cells; have hn := hb.cellsN; (try simp only [World.size_alloc] at hc hf hz hn); (try simp only [World.size_setCell] at hc hf hz hn); (try simp only [World.size_drew] at hc hf hz hn))
    go_wp2_with fail
    go_at_call 15
    refine (HC.out _ (by repeat (first | with_reducible exact Gr.refl _ | with_reducible refine Gr.alloc ?_ _ | with_reducible refine Gr.drew ?_ | with_reducible refine Gr.trans ?_ (by assumption) | with_reducible refine Gr.setCell ?_ (by (try simp); (try omega)) _))).mono ?_
    rintro e w2 ⟨A2, c2, rfl, -, -, hb2⟩
    go_wp2_with fail
    go_ret
    exact ⟨rfl, Gr.trans (by repeat (first | with_reducible exact Gr.refl _ | with_reducible refine Gr.alloc ?_ _ | with_reducible refine Gr.drew ?_ | with_reducible refine Gr.trans ?_ (by assumption) | with_reducible refine Gr.setCell ?_ (by (try simp); (try omega)) _)) hb2⟩
set_option maxRecDepth 100000 in
set_option maxHeartbeats 16000000 in
theorem lchords_ok (O Q : Option Addr) (no co nf cq : Nat) (sp tl : Int) (o q : Nat → Nat → Int) (A : Option Addr) (n c : Nat) (f : Nat → Nat → Int) (l : List (Nat × Nat)) (w : World) (hP : Primes w) (hL : Logs w) (hO : RowsAt w 6 O no o) (hQ : RowsAt w 6 Q nf q) (hA : RowsAt w 6 A n f) (hno : no ≤ 9223372036854775807) (hnf : nf ≤ 9223372036854775807) (hn : n ≤ 9223372036854775807) (hfew : fewB no nf n = true)
    (h1 : chordE no o nf q sp tl f n = 0) (h2 : chordL no o nf q sp tl f n = l) (hk : chordOk no o nf q sp tl f n = true) (hd : Drawn (optsF (findF no o nf q tl) f n) l) (hh : heldL sp l = true) :
    Calls Tryd.prog 5 #[.agg #[.slice O no co, .slice Q nf cq, .int .i64 sp, .int .i64 tl], .slice A n c] w fun e w' => e = .returned (.bool true) ∧ Gr w w' := by
  obtain ⟨hok, hn12, hvs⟩ := chordOk_parts hk
  obtain ⟨hlen, hall⟩ := drawn_facts hd
  have HP := Lib.hid hP; have HL := Lib.hid hL
  have hF := fun W => few_any O Q A no co nf cq n c sp tl W
  rw [hfew] at hF
  have HF := Lib.hid hF
  have hC := fun W (g : Gr w W) => fchord_any O Q no co nf cq sp tl o q A n c f W (hP.keep g) (hL.keep g) (hO.keep g) (hQ.keep g) (hA.keep g) hno hnf hn
  rw [h1, h2] at hC
  have HC := Lib.hid (fun W g => (hC W g).mono fun e w' h => frR_lit (n := n) h hlen)
  have hEx : allEx no nf (frF l) n = true := allEx_of fun i hi => by
    obtain ⟨s, k, -, k1, k2, k3, k4, -⟩ := hall i hi
    exact ⟨s, k, k1, k2, k3, k4⟩
  have hHB : heldB sp (frF l) n = true := by unfold heldL at hh; rw [hlen] at hh; exact hh
  have hFi := fun (A2 : Option Addr) (c2 : Nat) W (g : Gr w W) (hA2 : RowsAt W 2 A2 n (frF l)) (hc2 : n ≤ c2) => ffits_any O Q no co nf cq sp tl o q A2 n c2 (frF l) W (hP.keep g) (hO.keep g) (hQ.keep g) hA2 hno hnf (by omega) hc2
  rw [hok, hEx, hHB] at hFi
  have HFI := Lib.hid hFi
  have HPL := Lib.hid (fun W (g : Gr w W) i (hi : i < n) => (show ∃ s k : Nat, frF l i 0 = (s : Int) ∧ frF l i 1 = (k : Int) ∧ Calls Tryd.prog 26 #[.agg #[.slice O no co, .slice Q nf cq, .int .i64 sp, .int .i64 tl], .agg #[.int .i64 (s : Int), .int .i64 (k : Int)], .agg #[.int .i64 (f i 0), .int .i64 (f i 1), .int .i64 (f i 2), .int .i64 (f i 3), .int .i64 (f i 4), .int .i64 (f i 5)]] W fun e w' => e = .returned (.bool true) ∧ Gr W w' from by
    obtain ⟨s, k, -, k1, k2, k3, k4, k5⟩ := hall i hi
    refine ⟨s, k, k1, k2, ?_⟩
    have z := plays_ok O Q no co nf cq sp tl o q s k (f i 0) (f i 1) (f i 2) (f i 3) (f i 4) (f i 5) W (hP.keep g) (hL.keep g) (hO.keep g) (hQ.keep g) hno hnf hok k3 k4 (vecsB_at hvs hi)
    rw [show playsF o q tl ⟨f i 0, f i 1, f i 2, f i 3, f i 4, f i 5⟩ s k = true from k5] at z
    exact z))
  have HA := Lib.hid hA
  clear hP hL hF hfew hC h1 h2 hO hQ hA hFi hEx hHB hh hd hk hok hvs hlen hall
  go_enter Tryd.func5, Tryd.ntmps5
  go_wp2_with fail
  (go_at_call 11; with_reducible refine (fhead_any _ (HP.out.keep (by repeat (first | with_reducible exact Gr.refl _ | with_reducible refine Gr.alloc ?_ _ | with_reducible refine Gr.drew ?_ | with_reducible refine Gr.trans ?_ (by assumption) | with_reducible refine Gr.setCell ?_ (by (try simp); (try omega)) _))) (HL.out.keep (by repeat (first | with_reducible exact Gr.refl _ | with_reducible refine Gr.alloc ?_ _ | with_reducible refine Gr.drew ?_ | with_reducible refine Gr.trans ?_ (by assumption) | with_reducible refine Gr.setCell ?_ (by (try simp); (try omega)) _)))).mono ?_; rintro e w' ⟨rfl, hb⟩; have hz := hb.le; obtain ⟨hc, hf⟩ := hb.cells; have hn := hb.cellsN; (try simp only [World.size_alloc] at hc hf hz hn); (try simp only [World.size_setCell] at hc hf hz hn); (try simp only [World.size_drew] at hc hf hz hn))
  go_wp2_with fail
  (go_at_call 12; with_reducible refine (HF.out _).mono ?_; rintro e w' ⟨rfl, hb⟩; have hz := hb.le; obtain ⟨hc, hf⟩ := hb.cells; have hn := hb.cellsN; (try simp only [World.size_alloc] at hc hf hz hn); (try simp only [World.size_setCell] at hc hf hz hn); (try simp only [World.size_drew] at hc hf hz hn))
  go_wp2_with fail
  go_at_call 15
  refine (HC.out _ (by repeat (first | with_reducible exact Gr.refl _ | with_reducible refine Gr.alloc ?_ _ | with_reducible refine Gr.drew ?_ | with_reducible refine Gr.trans ?_ (by assumption) | with_reducible refine Gr.setCell ?_ (by (try simp); (try omega)) _))).mono ?_
  rintro e w2 ⟨A2, c2, rfl, hr2, hc2, hb2⟩
  have hz2 := hb2.le
  have hNK : NeckAt w' w.heap.size O Q no co nf cq sp tl := ⟨by omega, by simp [go_sem, *], by simp [go_sem, *], by simp [go_sem, *], by simp [go_sem, *]⟩
  have HNK := Lib.hid (hNK.keep hb2)
  have HG := Lib.hid (show Gr w w2 from Gr.trans (by repeat (first | with_reducible exact Gr.refl _ | with_reducible refine Gr.alloc ?_ _ | with_reducible refine Gr.drew ?_ | with_reducible refine Gr.trans ?_ (by assumption) | with_reducible refine Gr.setCell ?_ (by (try simp); (try omega)) _)) hb2)
  have HR2 := Lib.hid hr2
  clear hb hz hc hf hn hb2 hr2 hNK hz2
  obtain ⟨hl0, b0, b1, b2, b3⟩ := HNK.out
  go_wp2_with fail
  go_at_call 18
  refine (HFI.out A2 c2 _ HG.out HR2.out hc2).mono ?_
  rintro e w3 ⟨rfl, hb3⟩
  have HG3 := Lib.hid (HG.out.trans hb3)
  have HNK3 := Lib.hid (HNK.out.keep hb3)
  have HR3 := Lib.hid (HR2.out.keep hb3)
  have hnn : ((n : Int) != (n : Int)) = false := by simp
  have hnn2 : (n != n) = false := by simp
  clear hb3 hl0 b0 b1 b2 b3 HG HNK HR2
  go_wp2_with fail
  go_loopw [5, 60] (fun uv iv wr => ∃ i : Nat, i ≤ n ∧ uv = .bool true ∧ iv = .int .i64 (i : Int) ∧ Gr w3 wr) (fun _ iv _ => n - (intOf iv).toNat)
  case atStart => exact ⟨0, Nat.zero_le _, rfl, rfl, Gr.refl _⟩
  case round =>
    obtain ⟨i, hin, rfl, rfl, hg⟩ := hrel
    have HG4 := Lib.hid (HG3.out.trans hg)
    have HGR := Lib.hid hg
    obtain ⟨hl0, b0, b1, b2, b3⟩ := HNK3.out.keep hg
    obtain ⟨wo, rfl⟩ : ∃ wo : World, wo = wr := ⟨_, rfl⟩
    by_cases hlt : i < n
    · have hlt' : decide ((i : Int) < (n : Int)) = true := decide_eq_true (by omega)
      obtain ⟨b, off, rfl, hbl, c0, c1, c2', c3, c4, c5⟩ := (HA.out.keep HG4.out).six hlt
      have hrr := (HR3.out.keep hg).two hlt
      obtain ⟨b', off', rfl, hbl', d0, d1⟩ := hrr
      have hi0 : (0 : Int) ≤ (i : Int) := by omega
      have hi1 : (i : Int) < (n : Int) := by omega
      have hp := HPL.out
      go_upto_region 13 with fail
      have hgw : Gr wo (wo.alloc (.cells #[.int .i64 (f i 0), .int .i64 (f i 1), .int .i64 (f i 2), .int .i64 (f i 3), .int .i64 (f i 4), .int .i64 (f i 5)] 42)) := (Gr.refl _).alloc _
      have v0' : ∀ W, W = wo.alloc (.cells #[.int .i64 (f i 0), .int .i64 (f i 1), .int .i64 (f i 2), .int .i64 (f i 3), .int .i64 (f i 4), .int .i64 (f i 5)] 42) → SixV W wo.heap.size (.int .i64 (f i 0)) (.int .i64 (f i 1)) (.int .i64 (f i 2)) (.int .i64 (f i 3)) (.int .i64 (f i 4)) (.int .i64 (f i 5)) ∧ NeckAt W w.heap.size O Q no co nf cq sp tl ∧ W.cell? ⟨b', off' + i * 2, none⟩ = some (.int .i64 (frF l i 0)) ∧ W.cell? ⟨b', off' + i * 2 + 1, none⟩ = some (.int .i64 (frF l i 1)) ∧ b' < W.heap.size := by
        rintro W rfl
        exact ⟨⟨by simp [go_sem], by simp [go_sem], by simp [go_sem], by simp [go_sem], by simp [go_sem], by simp [go_sem]⟩, (HNK3.out.keep hg).keep hgw, (Below.cell (p := ⟨b', off' + i * 2, none⟩) hgw hbl').trans d0, (Below.cell (p := ⟨b', off' + i * 2 + 1, none⟩) hgw hbl').trans d1, Nat.lt_of_lt_of_le hbl' hgw.le⟩
      have v1' : wo.heap.size < (wo.alloc (.cells #[.int .i64 (f i 0), .int .i64 (f i 1), .int .i64 (f i 2), .int .i64 (f i 3), .int .i64 (f i 4), .int .i64 (f i 5)] 42)).heap.size := by simp
      clear hl0 b0 b1 b2 b3 c0 c1 c2' c3 c4 c5 d0 d1 hbl hg hbl' hp
      generalize wo.alloc (.cells #[.int .i64 (f i 0), .int .i64 (f i 1), .int .i64 (f i 2), .int .i64 (f i 3), .int .i64 (f i 4), .int .i64 (f i 5)] 42) = wk at *
      obtain ⟨⟨e0, e1, e2, e3, e4, e5⟩, ⟨hl0, b0, b1, b2, b3⟩, d0, d1, hbl'⟩ := v0' wk rfl
      obtain ⟨s, k, hs0, hs1, hpl⟩ := HPL.out wk (HG4.out.trans hgw) i hlt
      rw [hs0] at d0
      rw [hs1] at d1
      have HPC := Lib.hid (fun W (g : Gr wk W) => (show Calls Tryd.prog 26 #[.agg #[.slice O no co, .slice Q nf cq, .int .i64 sp, .int .i64 tl], .agg #[.int .i64 (s : Int), .int .i64 (k : Int)], .agg #[.int .i64 (f i 0), .int .i64 (f i 1), .int .i64 (f i 2), .int .i64 (f i 3), .int .i64 (f i 4), .int .i64 (f i 5)]] W fun e w' => e = .returned (.bool true) ∧ Gr W w' from by
        obtain ⟨s', k', q0, q1, z⟩ := HPL.out W ((HG4.out.trans hgw).trans g) i hlt
        obtain rfl : s' = s := by rw [hs0] at q0; omega
        obtain rfl : k' = k := by rw [hs1] at q1; omega
        exact z))
      have HGK := Lib.hid (HGR.out.trans hgw)
      clear v0' hpl hgw hs0 hs1
      go_region_held3 (fun wx => (∀ b o, (⟨min (b + 1) wk.heap.size, 0, none⟩ : Addr) = ⟨b + 1, 0, none⟩ → wx.cell? ⟨b, o, none⟩ = wk.cell? ⟨b, o, none⟩) ∧ Gr wk wx) (first | with_reducible exact held_drew _ | with_reducible exact held_call (by assumption) (by assumption) | with_reducible exact held_alloc (by assumption) _ | with_reducible exact held_alloc0 _ _ | with_reducible exact held_anew (by assumption) _ (by omega) | ((repeat (with_reducible refine held_set ?_ (by (try simp); (try omega)) _)); (first | with_reducible assumption | with_reducible exact held_call (by assumption) (by assumption)))) (first | (go_at_call 26; with_reducible refine (HPC.out _ (held_gr (by assumption))).mono ?_; rintro e w' ⟨rfl, hb⟩; have hzz := ((held_gr (by assumption)).trans hb).le; have hz := hb.le; obtain ⟨hcx, hfx⟩ := hb.cells; have hn := hb.cellsN; (try simp only [World.size_drew] at hcx hfx hz hn); (try simp only [World.size_setCell] at hcx hfx hz hn); (try simp only [World.size_alloc] at hcx hfx hz hn)))
      all_goals
        go_wp2_with fail
        go_roundw
        case rel => exact ⟨i + 1, by omega, rfl, by go_num, HGK.out.trans (held_gr (by assumption))⟩
        case measure => simp [intOf]; omega
    · obtain rfl : n = i := by omega
      have hlt' : decide ((n : Int) < (n : Int)) = false := decide_eq_false (by omega)
      go_wp2_with fail
      go_ret
      exact ⟨rfl, HG4.out⟩
theorem lchords_law (O Q : Option Addr) (no co nf cq : Nat) (sp tl : Int) (o q : Nat → Nat → Int) (A : Option Addr) (n c : Nat) (f : Nat → Nat → Int) (w : World) (hP : Primes w) (hL : Logs w) (hO : RowsAt w 6 O no o) (hQ : RowsAt w 6 Q nf q) (hA : RowsAt w 6 A n f) (hno : no ≤ 9223372036854775807) (hnf : nf ≤ 9223372036854775807) (hn : n ≤ 9223372036854775807) :
    Calls Tryd.prog 5 #[.agg #[.slice O no co, .slice Q nf cq, .int .i64 sp, .int .i64 tl], .slice A n c] w fun e w' => e = .returned (.bool true) ∧ Gr w w' := by
  rcases bool_tf (fewB no nf n) with hfew | hfew
  · rcases chordE_cases no o nf q sp tl f n with ⟨h1, h2, l, h3, h4, h5⟩ | ⟨h1, h2⟩
    · exact lchords_ok O Q no co nf cq sp tl o q A n c f l w hP hL hO hQ hA hno hnf hn hfew h1 h3 h2 h4 h5
    · exact lchords_err O Q no co nf cq sp tl o q A n c f w hP hL hO hQ hA hno hnf hn hfew h1 h2
  · exact lchords_few O Q no co nf cq sp tl A n c w hP hL hfew
end Go.Proofs.YtohalcookjbaaaaDoor
