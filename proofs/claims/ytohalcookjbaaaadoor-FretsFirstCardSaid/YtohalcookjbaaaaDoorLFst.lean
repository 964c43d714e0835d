/-
  The law FretsFirst.
-/
import Derived.Test.YtohalcookjbaaaaDoorLChords
import Derived.Test.YtohalcookjbaaaaDoorNkRV
import Derived.BigQuiet
import Derived.IntWalk
namespace Go.Proofs.YtohalcookjbaaaaDoor
open Go.RowKit

theorem befB_at : ∀ {k : Nat} {l r : List (Nat × Nat)}, k < l.length → k < r.length → (∀ j, j < k → l.getD j (0, 0) = r.getD j (0, 0)) → l.getD k (0, 0) ≠ r.getD k (0, 0) → befB l r = decide ((l.getD k (0, 0)).1 < (r.getD k (0, 0)).1 ∨ ((l.getD k (0, 0)).1 = (r.getD k (0, 0)).1 ∧ (l.getD k (0, 0)).2 < (r.getD k (0, 0)).2))
  | _, [], _, h, _, _, _ => by simp at h
  | _, _ :: _, [], _, h, _, _ => by simp at h
  | 0, a :: l, b :: r, _, _, _, hne => by
    have hne' : ¬ a = b := by simpa using hne
    simp [befB, if_neg hne']
  | k + 1, a :: l, b :: r, h1, h2, hj, hne => by
    have e : a = b := by simpa using hj 0 (by omega)
    have z := befB_at (k := k) (l := l) (r := r) (by simpa using h1) (by simpa using h2) (fun j h => by simpa using hj (j + 1) (by omega)) (by simpa using hne)
    simp only [befB, if_pos e, List.getD_cons_succ]
    exact z
theorem befB_self : ∀ l : List (Nat × Nat), befB l l = false
  | [] => rfl
  | a :: l => by simp [befB, befB_self l]
theorem befB_same {l r : List (Nat × Nat)} (hn : l.length = r.length) (h : ∀ j, j < l.length → l.getD j (0, 0) = r.getD j (0, 0)) : befB l r = false := by
  have e : l = r := List.ext_getElem hn fun i h1 h2 => by
    have := h i h1
    simpa [List.getD, List.getElem?_eq_getElem h1, List.getElem?_eq_getElem h2] using this
  rw [e]; exact befB_self r
theorem frF_getD {l r : List (Nat × Nat)} {i : Nat} (h0 : frF l i 0 = frF r i 0) (h1 : frF l i 1 = frF r i 1) : l.getD i (0, 0) = r.getD i (0, 0) := by
  simp only [frF] at h0 h1
  simp at h0 h1
  rw [List.getD_eq_getElem?_getD, List.getD_eq_getElem?_getD]
  exact Prod.ext (by omega) (by omega)
theorem befB_row {l r : List (Nat × Nat)} {n k : Nat} (hl : l.length = n) (hr : r.length = n) (hk : k < n) (hs : sameR (frF l) (frF r) k = true) (hne : ¬ (frF l k 0 = frF r k 0 ∧ frF l k 1 = frF r k 1)) :
    befB l r = (decide (frF l k 0 < frF r k 0) || ((frF l k 0 == frF r k 0) && decide (frF l k 1 < frF r k 1))) := by
  rw [befB_at (k := k) (by omega) (by omega) (fun j hj => frF_getD ((sameR_iff _ _ _).1 hs j hj).1 ((sameR_iff _ _ _).1 hs j hj).2) (fun e => hne (by simp only [frF, e]; simp))]
  rw [Bool.eq_iff_iff]
  simp only [frF, decide_eq_true_eq, Bool.or_eq_true, Bool.and_eq_true, beq_iff_eq]
  simp
  omega

set_option maxRecDepth 100000 in
set_option maxHeartbeats 4000000 in
theorem before_ok (A : Option Addr) (n c : Nat) (l : List (Nat × Nat)) (A' : Option Addr) (c' : Nat) (r : List (Nat × Nat)) (w : World) (hR : RowsAt w 2 A n (frF l)) (hR' : RowsAt w 2 A' n (frF r)) (hl : l.length = n) (hr : r.length = n) (hn : n ≤ 4611686018427387904) :
    Calls Tryd.prog 27 #[.slice A n c, .slice A' n c'] w fun e w' => e = .returned (.bool (befB l r)) ∧ Gr w w' := by
  have HR := Lib.hid hR; have HR' := Lib.hid hR'
  have HB := Lib.hid (fun (k : Nat) (hk : k < n) hs hne => befB_row hl hr hk hs hne)
  have HB2 : Hid (sameR (frF l) (frF r) n = true → befB l r = false) := Lib.hid (fun hs => befB_same (by omega) (fun j hj => frF_getD ((sameR_iff _ _ _).1 hs j (by omega)).1 ((sameR_iff _ _ _).1 hs j (by omega)).2))
  clear hR hR' hl hr
  generalize frF l = g at *
  generalize frF r = h at *
  generalize befB l r = B at *
  go_enter Tryd.func27, Tryd.ntmps27
  go_wp2_with fail
  go_loopw [9] (fun i wr => ∃ k : Nat, k ≤ n ∧ i = .int .i64 k ∧ sameR g h k = true ∧ Gr w wr) (fun i _ => n - (intOf i).toNat)
  case atStart => exact ⟨0, Nat.zero_le _, rfl, rfl, Gr.refl _⟩
  case round =>
    obtain ⟨k, hk, rfl, hno, hg⟩ := hrel
    have HNO := Lib.hid hno; have HG := Lib.hid hg
    clear hno hg
    by_cases hlt : k < n
    · obtain ⟨b, off, rfl, hbl, c0, c1⟩ := (HR.out.keep HG.out).two hlt
      obtain ⟨b', off', rfl, hbl', d0, d1⟩ := (HR'.out.keep HG.out).two hlt
      obtain ⟨wo, rfl⟩ : ∃ wo : World, wo = wr := ⟨_, rfl⟩
      by_cases hh : g k 0 = h k 0 ∧ g k 1 = h k 1
      · have HN : Hid (sameR g h (k + 1) = true) := Lib.hid (by simp [sameR, HNO.out, hh.1, hh.2])
        rw [hh.1] at c0
        rw [hh.2] at c1
        clear hh
        have hEQ : ∀ W, (Op.equalIn 10000 37 (.agg #[.int .i64 (h k 0), .int .i64 (h k 1)]) (.agg #[.int .i64 (h k 0), .int .i64 (h k 1)])).run Tryd.prog W = .ok true W := fun W => by rw [eqFret]; simp
        go_wp2_with fail
        go_region
        all_goals
          go_wp2_with fail
          go_roundw
          case rel => exact ⟨k + 1, by omega, by go_num, HN.out, HG.out.trans (by repeat (first | exact Gr.refl _ | refine Gr.alloc ?_ _ | refine Gr.drew ?_ | refine Gr.trans ?_ (by assumption) | refine Gr.setCell ?_ (by (try simp); (try omega)) _))⟩
          case measure => simp [intOf]; omega
      · have HBK := HB.out k hlt HNO.out hh
        have hEQ : ∀ W, (Op.equalIn 10000 37 (.agg #[.int .i64 (g k 0), .int .i64 (g k 1)]) (.agg #[.int .i64 (h k 0), .int .i64 (h k 1)])).run Tryd.prog W = .ok false W := fun W => by
          rw [eqFret]
          by_cases h0 : g k 0 = h k 0
          · by_cases h1 : g k 1 = h k 1
            · exact absurd ⟨h0, h1⟩ hh
            · simp [h1]
          · simp [h0]
        rcases bool_tf (decide (g k 0 < h k 0)) with q1 | q1
        · rw [q1] at HBK
          have HBL : Hid (B = true) := Lib.hid (by simpa using HBK)
          clear HBK hh
          go_wp2_with fail
          go_region
          all_goals
            go_upto_region 5 with fail
            go_quiet (fail)
            go_wp2_with fail
            go_ret
            exact ⟨ret_bool HBL.out.symm, HG.out.trans (((Gr.refl _).alloc _).drew.drewN _)⟩
        · rcases bool_tf (g k 0 == h k 0) with q2 | q2
          · rw [q1, q2] at HBK
            rcases bool_tf (decide (g k 1 < h k 1)) with q3 | q3
            · rw [q3] at HBK
              have HBL : Hid (B = true) := Lib.hid (by simpa using HBK)
              clear HBK hh
              go_wp2_with fail
              go_region
              all_goals
                go_upto_region 5 with fail
                go_quiet (fail)
                go_wp2_with fail
                go_ret
                exact ⟨ret_bool HBL.out.symm, HG.out.trans (((Gr.refl _).alloc _).drew.drewN _)⟩
            · rw [q3] at HBK
              have HBL : Hid (B = false) := Lib.hid (by simpa using HBK)
              clear HBK hh
              go_wp2_with fail
              go_region
              all_goals
                go_upto_region 5 with fail
                go_quiet (fail)
                go_wp2_with fail
                go_ret
                exact ⟨ret_bool HBL.out.symm, HG.out.trans (((Gr.refl _).alloc _).drew.drewN _)⟩
          · rw [q1, q2] at HBK
            have HBL : Hid (B = false) := Lib.hid (by simpa using HBK)
            clear HBK hh
            go_wp2_with fail
            go_region
            all_goals
              go_upto_region 5 with fail
              go_quiet (fail)
              go_wp2_with fail
              go_ret
              exact ⟨ret_bool HBL.out.symm, HG.out.trans (((Gr.refl _).alloc _).drew.drewN _)⟩
    · obtain rfl : k = n := by omega
      have HBL := Lib.hid (HB2.out HNO.out)
      go_wp2_with fail
      go_ret
      exact ⟨ret_bool HBL.out.symm, HG.out⟩

theorem Drawn.snoc {os : List (List (Nat × Nat))} {l : List (Nat × Nat)} (h : Drawn os l) {o : List (Nat × Nat)} {x : Nat × Nat} (hx : x ∈ o) : Drawn (os ++ [o]) (l ++ [x]) := by
  induction h with
  | nil => exact .cons hx .nil
  | cons hf _ ih => exact .cons hf ih
theorem Drawn.some_ {os : List (List (Nat × Nat))} {l : List (Nat × Nat)} (h : Drawn os l) : noneB os = false := by
  induction h with
  | nil => rfl
  | @cons o os f l hf _ ih =>
    have : o.length ≠ 0 := by have := List.length_pos_of_mem hf; omega
    simp [noneB] at ih ⊢
    exact ⟨by intro e; subst e; simp at this, ih⟩
/-- What Chord returns where a list of frets plays the chord. -/
theorem first_plain {no nf n : Nat} {o q f : Nat → Nat → Int} {sp tl : Int} {p : List (Nat × Nat)} (hk : chordOk no o nf q sp tl f n = true) (hd : Drawn (optsF (findF no o nf q tl) f n) p) :
    chordE no o nf q sp tl f n = 2 ∨ (chordE no o nf q sp tl f n = 20 ∧ heldL sp p = false) ∨ (chordE no o nf q sp tl f n = 0 ∧ (chordL no o nf q sp tl f n).length = n ∧ (heldL sp p = true → befB p (chordL no o nf q sp tl f n) = false)) := by
  unfold chordE chordL
  rw [if_pos hk, if_pos hk]
  rcases chE_cases sp (optsF (findF no o nf q tl) f n) with ⟨h1, h2, h3, h4⟩ | ⟨h1, h2⟩
  · refine .inr (.inr ⟨h1, ?_, fun hh => ?_⟩)
    · obtain ⟨l, e, h5, -⟩ := srch_some (pre := []) rfl h4
      rw [e, List.nil_append, h5.len, optsF_len]
    · refine srch_first (pre := []) (os := optsF (findF no o nf q tl) f n) (fun x hx => ?_) (by simpa using h4) rfl hd (by simpa using hh)
      obtain ⟨i, hi⟩ := List.getElem?_of_mem hx
      have hin : i < n := by
        have := (List.getElem?_eq_some_iff.1 hi).1
        rwa [optsF_len] at this
      rw [optsF_at _ _ hin] at hi
      cases hi
      exact onAll_sorted _ _ _
  · rcases h2 with ⟨-, h⟩ | ⟨h, -⟩ | ⟨h, -, -, h4⟩
    · rw [hd.some_] at h; cases h
    · exact .inl h
    · refine .inr (.inl ⟨h, ?_⟩)
      rw [← Bool.not_eq_true]
      intro hh
      obtain ⟨r, hr⟩ := srch_finds (pre := []) hd (by simpa using hh)
      rw [hr] at h4; cases h4

set_option maxRecDepth 100000 in
set_option maxHeartbeats 16000000 in
theorem lfst_skip (O Q : Option Addr) (no co nf cq : Nat) (sp tl : Int) (o q : Nat → Nat → Int) (A B : Option Addr) (n c m cm : Nat) (w : World) (hP : Primes w) (hL : Logs w) (hO : RowsAt w 6 O no o) (hQ : RowsAt w 6 Q nf q) (hno : no ≤ 9223372036854775807) (hnf : nf ≤ 9223372036854775807) (hbad : (fewB no nf n && (decide (n ≤ m) && neckB no o nf q sp tl)) = false) :
    Calls Tryd.prog 6 #[.agg #[.slice O no co, .slice Q nf cq, .int .i64 sp, .int .i64 tl], .slice A n c, .slice B m cm] w fun e w' => e = .returned (.bool true) ∧ Gr w w' := by
  have HP := Lib.hid hP; have HL := Lib.hid hL
  have hF := fun W => few_any O Q A no co nf cq n c sp tl W
  have hV := fun W (g : Gr w W) => rneck_any O Q no co nf cq sp tl o q W (hO.keep g) (hQ.keep g) hno hnf
  clear hP hL hO hQ
  rcases bool_tf (fewB no nf n) with h1 | h1
  · rw [h1] at hF
    have HF := Lib.hid hF
    by_cases h2 : n ≤ m
    · have d2 : decide ((m : Int) < (n : Int)) = false := decide_eq_false (by omega)
      have d2' : decide (m < n) = false := decide_eq_false (by omega)
      rw [h1, decide_eq_true h2, Bool.true_and, Bool.true_and] at hbad
      rw [hbad] at hV
      have HV := Lib.hid hV
      clear hF hV hbad h1 h2
      go_enter Tryd.func6, Tryd.ntmps6
      go_wp2_with fail
      (go_at_call 11; with_reducible refine (fhead_any _ (HP.out.keep (by repeat (first | with_reducible exact Gr.refl _ | with_reducible refine Gr.alloc ?_ _ | with_reducible refine Gr.drew ?_ | with_reducible refine Gr.trans ?_ (by assumption) | with_reducible refine Gr.setCell ?_ (by (try simp); (try omega)) _))) (HL.out.keep (by repeat (first | with_reducible exact Gr.refl _ | with_reducible refine Gr.alloc ?_ _ | with_reducible refine Gr.drew ?_ | with_reducible refine Gr.trans ?_ (by assumption) | with_reducible refine Gr.setCell ?_ (by (try simp); (try omega)) _)))).mono ?_; rintro e w' ⟨rfl, hb⟩; have hz := hb.le; obtain ⟨hc, hf⟩ := hb.cells; have hn := hb.cellsN; (try simp only [World.size_alloc] at hc hf hz hn); (try simp only [World.size_setCell] at hc hf hz hn); (try simp only [World.size_drew] at hc hf hz hn))
      go_wp2_with fail
      (go_at_call 12; with_reducible refine (HF.out _).mono ?_; rintro e w' ⟨rfl, hb⟩; have hz := hb.le; obtain ⟨hc, hf⟩ := hb.cells; have hn := hb.cellsN; (try simp only [World.size_alloc] at hc hf hz hn); (try simp only [World.size_setCell] at hc hf hz hn); (try simp only [World.size_drew] at hc hf hz hn))
      go_wp2_with fail
      (go_at_call 14; with_reducible refine (HV.out _ (by repeat (first | with_reducible exact Gr.refl _ | with_reducible refine Gr.alloc ?_ _ | with_reducible refine Gr.drew ?_ | with_reducible refine Gr.trans ?_ (by assumption) | with_reducible refine Gr.setCell ?_ (by (try simp); (try omega)) _))).mono ?_; rintro e w' ⟨rfl, hb⟩; have hz := hb.le; obtain ⟨hc, hf⟩ := hb.cells; have hn := hb.cellsN; (try simp only [World.size_alloc] at hc hf hz hn); (try simp only [World.size_setCell] at hc hf hz hn); (try simp only [World.size_drew] at hc hf hz hn))
      go_wp2_with fail
      go_ret
      exact ⟨rfl, (by repeat (first | with_reducible exact Gr.refl _ | with_reducible refine Gr.alloc ?_ _ | with_reducible refine Gr.drew ?_ | with_reducible refine Gr.trans ?_ (by assumption) | with_reducible refine Gr.setCell ?_ (by (try simp); (try omega)) _))⟩
    · have d2 : decide ((m : Int) < (n : Int)) = true := decide_eq_true (by omega)
      have d2' : decide (m < n) = true := decide_eq_true (by omega)
      clear hF hV hbad h1 h2
      go_enter Tryd.func6, Tryd.ntmps6
      go_wp2_with fail
      (go_at_call 11; with_reducible refine (fhead_any _ (HP.out.keep (by repeat (first | with_reducible exact Gr.refl _ | with_reducible refine Gr.alloc ?_ _ | with_reducible refine Gr.drew ?_ | with_reducible refine Gr.trans ?_ (by assumption) | with_reducible refine Gr.setCell ?_ (by (try simp); (try omega)) _))) (HL.out.keep (by repeat (first | with_reducible exact Gr.refl _ | with_reducible refine Gr.alloc ?_ _ | with_reducible refine Gr.drew ?_ | with_reducible refine Gr.trans ?_ (by assumption) | with_reducible refine Gr.setCell ?_ (by (try simp); (try omega)) _)))).mono ?_; rintro e w' ⟨rfl, hb⟩; have hz := hb.le; obtain ⟨hc, hf⟩ := hb.cells; have hn := hb.cellsN; (try simp only [World.size_alloc] at hc hf hz hn); (try simp only [World.size_setCell] at hc hf hz hn); (try simp only [World.size_drew] at hc hf hz hn))
      go_wp2_with fail
      (go_at_call 12; with_reducible refine (HF.out _).mono ?_; rintro e w' ⟨rfl, hb⟩; have hz := hb.le; obtain ⟨hc, hf⟩ := hb.cells; have hn := hb.cellsN; (try simp only [World.size_alloc] at hc hf hz hn); (try simp only [World.size_setCell] at hc hf hz hn); (try simp only [World.size_drew] at hc hf hz hn))
      go_wp2_with fail
      go_ret
      exact ⟨rfl, (by repeat (first | with_reducible exact Gr.refl _ | with_reducible refine Gr.alloc ?_ _ | with_reducible refine Gr.drew ?_ | with_reducible refine Gr.trans ?_ (by assumption) | with_reducible refine Gr.setCell ?_ (by (try simp); (try omega)) _))⟩
  · rw [h1] at hF
    have HF := Lib.hid hF
    clear hF hV hbad h1
    go_enter Tryd.func6, Tryd.ntmps6
    go_wp2_with fail
    (go_at_call 11; with_reducible refine (fhead_any _ (HP.out.keep (by repeat (first | with_reducible exact Gr.refl _ | with_reducible refine Gr.alloc ?_ _ | with_reducible refine Gr.drew ?_ | with_reducible refine Gr.trans ?_ (by assumption) | with_reducible refine Gr.setCell ?_ (by (try simp); (try omega)) _))) (HL.out.keep (by repeat (first | with_reducible exact Gr.refl _ | with_reducible refine Gr.alloc ?_ _ | with_reducible refine Gr.drew ?_ | with_reducible refine Gr.trans ?_ (by assumption) | with_reducible refine Gr.setCell ?_ (by (try simp); (try omega)) _)))).mono ?_; rintro e w' ⟨rfl, hb⟩; have hz := hb.le; obtain ⟨hc, hf⟩ := hb.cells; have hn := hb.cellsN; (try simp only [World.size_alloc] at hc hf hz hn); (try simp only [World.size_setCell] at hc hf hz hn); (try simp only [World.size_drew] at hc hf hz hn))
    go_wp2_with fail
    (go_at_call 12; with_reducible refine (HF.out _).mono ?_; rintro e w' ⟨rfl, hb⟩; have hz := hb.le; obtain ⟨hc, hf⟩ := hb.cells; have hn := hb.cellsN; (try simp only [World.size_alloc] at hc hf hz hn); (try simp only [World.size_setCell] at hc hf hz hn); (try simp only [World.size_drew] at hc hf hz hn))
    go_wp2_with fail
    go_ret
    exact ⟨rfl, (by repeat (first | with_reducible exact Gr.refl _ | with_reducible refine Gr.alloc ?_ _ | with_reducible refine Gr.drew ?_ | with_reducible refine Gr.trans ?_ (by assumption) | with_reducible refine Gr.setCell ?_ (by (try simp); (try omega)) _))⟩

set_option maxRecDepth 100000 in
set_option maxHeartbeats 16000000 in
theorem lfst_ok (O Q : Option Addr) (no co nf cq : Nat) (sp tl : Int) (o q : Nat → Nat → Int) (A B : Option Addr) (n c m cm : Nat) (f : Nat → Nat → Int) (g : Nat → Int) (w : World) (hP : Primes w) (hL : Logs w) (hO : RowsAt w 6 O no o) (hQ : RowsAt w 6 Q nf q) (hA : RowsAt w 6 A n f) (hB : (0 < m → ∃ b off, B = some ⟨b, off, none⟩ ∧ b < w.heap.size ∧ ∀ i, i < m → w.cell? ⟨b, off + i, none⟩ = some (.int .u8 (g i)) ∧ 0 ≤ g i ∧ g i ≤ 255)) (hno : no ≤ 9223372036854775807) (hnf : nf ≤ 9223372036854775807) (hm : m ≤ 9223372036854775807) (hgood : (fewB no nf n && (decide (n ≤ m) && neckB no o nf q sp tl)) = true) :
    Calls Tryd.prog 6 #[.agg #[.slice O no co, .slice Q nf cq, .int .i64 sp, .int .i64 tl], .slice A n c, .slice B m cm] w fun e w' => e = .returned (.bool true) ∧ Gr w w' := by
  simp only [Bool.and_eq_true, decide_eq_true_eq] at hgood
  obtain ⟨hfew, hnm, hok⟩ := hgood
  have hlim := (neckB_parts hok).1
  have hn4 : no ≤ 6 ∧ nf ≤ 15 ∧ n ≤ 4 := by simpa [fewB] using hfew
  have HP := Lib.hid hP; have HL := Lib.hid hL
  have hF := fun W => few_any O Q A no co nf cq n c sp tl W
  have hV := fun W (g : Gr w W) => rneck_any O Q no co nf cq sp tl o q W (hO.keep g) (hQ.keep g) hno hnf
  rw [hfew] at hF
  rw [hok] at hV
  have hFB := fun W (g : Gr w W) i (hi : i < n) (hv : allIn (rowV f i) 48 6 = false) => (ffind_bad O Q no co nf cq sp tl o q (f i 0) (f i 1) (f i 2) (f i 3) (f i 4) (f i 5) W (hP.keep g) (hO.keep g) (hQ.keep g) hno hnf (by rw [hok, Bool.true_and]; exact hv))
  have hFD := fun W (g : Gr w W) i (hi : i < n) (hv : allIn (rowV f i) 48 6 = true) => (ffind_ok O Q no co nf cq sp tl o q (f i 0) (f i 1) (f i 2) (f i 3) (f i 4) (f i 5) W (hP.keep g) (hL.keep g) (hO.keep g) (hQ.keep g) hno hnf hok hv)
  have hPL := fun W (g : Gr w W) i (hi : i < n) (hv : allIn (rowV f i) 48 6 = true) (s k : Nat) (hx : (s, k) ∈ findF no o nf q tl ⟨f i 0, f i 1, f i 2, f i 3, f i 4, f i 5⟩) => (show Calls Tryd.prog 26 #[.agg #[.slice O no co, .slice Q nf cq, .int .i64 sp, .int .i64 tl], .agg #[.int .i64 (s : Int), .int .i64 (k : Int)], .agg #[.int .i64 (f i 0), .int .i64 (f i 1), .int .i64 (f i 2), .int .i64 (f i 3), .int .i64 (f i 4), .int .i64 (f i 5)]] W fun e w' => e = .returned (.bool true) ∧ Gr W w' from by
    obtain ⟨k3, k4, k5⟩ := mem_onAll.1 hx
    have z := plays_ok O Q no co nf cq sp tl o q s k (f i 0) (f i 1) (f i 2) (f i 3) (f i 4) (f i 5) W (hP.keep g) (hL.keep g) (hO.keep g) (hQ.keep g) hno hnf hok k3 (Nat.lt_succ_iff.1 k4) hv
    rw [show playsF o q tl ⟨f i 0, f i 1, f i 2, f i 3, f i 4, f i 5⟩ s k = true from k5] at z
    exact z)
  have hFT := fun W (g : Gr w W) (A2 : Option Addr) (c2 : Nat) (p : List (Nat × Nat)) (h2 : RowsAt W 2 A2 n (frF p)) (hc2 : n ≤ c2) (hd : Drawn (optsF (findF no o nf q tl) f n) p) => (show Calls Tryd.prog 18 #[.agg #[.slice O no co, .slice Q nf cq, .int .i64 sp, .int .i64 tl], .slice A2 n c2] W fun e w' => e = .returned (.tuple #[.bool (heldL sp p), .int .i64 0]) ∧ Gr W w' from by
    have z := ffits_any O Q no co nf cq sp tl o q A2 n c2 (frF p) W (hP.keep g) (hO.keep g) (hQ.keep g) h2 hno hnf (by omega) hc2
    obtain ⟨hlen, hall⟩ := drawn_facts hd
    have e1 : allEx no nf (frF p) n = true := allEx_of fun i hi => by
      obtain ⟨s, k, -, k1, k2, k3, k4, -⟩ := hall i hi
      exact ⟨s, k, k1, k2, k3, k4⟩
    rw [hok, e1] at z
    unfold heldL
    rw [hlen]
    exact z)
  have hC := fun W (g : Gr w W) => fchord_any O Q no co nf cq sp tl o q A n c f W (hP.keep g) (hL.keep g) (hO.keep g) (hQ.keep g) (hA.keep g) hno hnf (by omega)
  have hFP := fun (p : List (Nat × Nat)) (hv : vecsB f n = true) (hd : Drawn (optsF (findF no o nf q tl) f n) p) => first_plain (sp := sp) (show chordOk no o nf q sp tl f n = true by unfold chordOk; rw [hok, hv, decide_eq_true (show n ≤ 12 by omega)]; rfl) hd
  have hLN : ∀ i, (findF no o nf q tl ⟨f i 0, f i 1, f i 2, f i 3, f i 4, f i 5⟩).length ≤ 296 := fun i => by
    have z1 := onAll_len (playsF o q tl ⟨f i 0, f i 1, f i 2, f i 3, f i 4, f i 5⟩) (nf + 1) no
    have z3 : no * (nf + 1) ≤ 8 * 37 := Nat.mul_le_mul (by omega) (by omega)
    show (onAll (playsF o q tl ⟨f i 0, f i 1, f i 2, f i 3, f i 4, f i 5⟩) (nf + 1) no).length ≤ 296
    omega
  obtain ⟨i0, hinfo, hz0, hz1, hz2⟩ := info_parts infoFret
  have HINF := Lib.hid (And.intro hinfo (And.intro hz0 (And.intro hz1 hz2)))
  have HF := Lib.hid hF; have HV := Lib.hid hV; have HFB := Lib.hid hFB; have HFD := Lib.hid hFD; have HPL := Lib.hid hPL; have HFT := Lib.hid hFT; have HC := Lib.hid hC; have HFP := Lib.hid hFP; have HLN := Lib.hid hLN; have HA := Lib.hid hA; have HBY := Lib.hid hB
  have d2 : decide ((m : Int) < (n : Int)) = false := decide_eq_false (by omega)
  have d2' : decide (m < n) = false := decide_eq_false (by omega)
  clear hF hV hFB hFD hPL hFT hC hFP hLN hB hfew hok hP hL hO hQ hA hinfo hz0 hz1 hz2
  go_enter Tryd.func6, Tryd.ntmps6
  go_wp2_with fail
  (go_at_call 11; with_reducible refine (fhead_any _ (HP.out.keep (by repeat (first | with_reducible exact Gr.refl _ | with_reducible refine Gr.alloc ?_ _ | with_reducible refine Gr.drew ?_ | with_reducible refine Gr.trans ?_ (by assumption) | with_reducible refine Gr.setCell ?_ (by (try simp); (try omega)) _))) (HL.out.keep (by repeat (first | with_reducible exact Gr.refl _ | with_reducible refine Gr.alloc ?_ _ | with_reducible refine Gr.drew ?_ | with_reducible refine Gr.trans ?_ (by assumption) | with_reducible refine Gr.setCell ?_ (by (try simp); (try omega)) _)))).mono ?_; rintro e w' ⟨rfl, hb⟩; have hz := hb.le; obtain ⟨hc, hf⟩ := hb.cells; have hn := hb.cellsN; (try simp only [World.size_alloc] at hc hf hz hn); (try simp only [World.size_setCell] at hc hf hz hn); (try simp only [World.size_drew] at hc hf hz hn))
  go_wp2_with fail
  (go_at_call 12; with_reducible refine (HF.out _).mono ?_; rintro e w' ⟨rfl, hb⟩; have hz := hb.le; obtain ⟨hc, hf⟩ := hb.cells; have hn := hb.cellsN; (try simp only [World.size_alloc] at hc hf hz hn); (try simp only [World.size_setCell] at hc hf hz hn); (try simp only [World.size_drew] at hc hf hz hn))
  go_wp2_with fail
  (go_at_call 14; with_reducible refine (HV.out _ (by repeat (first | with_reducible exact Gr.refl _ | with_reducible refine Gr.alloc ?_ _ | with_reducible refine Gr.drew ?_ | with_reducible refine Gr.trans ?_ (by assumption) | with_reducible refine Gr.setCell ?_ (by (try simp); (try omega)) _))).mono ?_; rintro e w' ⟨rfl, hb⟩; have hz := hb.le; obtain ⟨hc, hf⟩ := hb.cells; have hn := hb.cellsN; (try simp only [World.size_alloc] at hc hf hz hn); (try simp only [World.size_setCell] at hc hf hz hn); (try simp only [World.size_drew] at hc hf hz hn))
  have HNK : Hid (NeckAt w' w.heap.size O Q no co nf cq sp tl) := Lib.hid ⟨by omega, by simp [go_sem, *], by simp [go_sem, *], by simp [go_sem, *], by simp [go_sem, *]⟩
  have HG := Lib.hid (show Gr w w' from (by repeat (first | with_reducible exact Gr.refl _ | with_reducible refine Gr.alloc ?_ _ | with_reducible refine Gr.drew ?_ | with_reducible refine Gr.trans ?_ (by assumption) | with_reducible refine Gr.setCell ?_ (by (try simp); (try omega)) _)))
  clear hb hz hc hf hn HF HV
  obtain ⟨W0, rfl⟩ : ∃ W0 : World, W0 = w' := ⟨_, rfl⟩
  have HL0 : Hid (OwnL W0.heap.size 37 2 W0 (.slice none 0 0) 0 (frCells []) W0) := Lib.hid (OwnL.start _ _ _ _ (Nat.le_refl _))
  go_wp2_with fail
  go_loopw [7, 8, 38] (fun uv lv iv wr => ∃ (LV : Value) (i : Nat) (p : List (Nat × Nat)), LV = lv ∧ i ≤ n ∧ uv = .bool true ∧ iv = .int .i64 (i : Int) ∧ vecsB f i = true ∧ Drawn (optsF (findF no o nf q tl) f i) p ∧ OwnL W0.heap.size 37 2 W0 LV i (frCells p) wr) (fun _ _ iv _ => n - (intOf iv).toNat)
  case atStart => exact ⟨_, 0, [], rfl, Nat.zero_le _, rfl, rfl, rfl, .nil, HL0.out⟩
  case round =>
    obtain ⟨lv, i, p, rfl, hin, rfl, rfl, hvs, hdr, hL⟩ := hrel
    have HLL := Lib.hid hL; have HVS := Lib.hid hvs; have HDR := Lib.hid hdr
    have hgr : Gr W0 wr := hL.toGr (Gr.refl _) (Nat.le_refl _)
    have hsz := hL.size
    have HGR := Lib.hid (HG.out.trans hgr)
    have hnk := HNK.out.keep hgr
    clear hL hvs hdr HL0
    obtain ⟨wo, rfl⟩ : ∃ wo : World, wo = wr := ⟨_, rfl⟩
    by_cases hlt : i < n
    · have hlt' : decide ((i : Int) < (n : Int)) = true := decide_eq_true (by omega)
      obtain ⟨b, off, rfl, hbl, c0, c1, c2', c3, c4, c5⟩ := (HA.out.keep HGR.out).six hlt
      have hi0 : (0 : Int) ≤ (i : Int) := by omega
      have hi1 : (i : Int) < (n : Int) := by omega
      go_upto_region 8 with fail
      have hgw : Gr wo (wo.alloc (.cells #[.int .i64 (f i 0), .int .i64 (f i 1), .int .i64 (f i 2), .int .i64 (f i 3), .int .i64 (f i 4), .int .i64 (f i 5)] 42)) := (Gr.refl _).alloc _
      have v0' : ∀ W, W = wo.alloc (.cells #[.int .i64 (f i 0), .int .i64 (f i 1), .int .i64 (f i 2), .int .i64 (f i 3), .int .i64 (f i 4), .int .i64 (f i 5)] 42) → SixV W wo.heap.size (.int .i64 (f i 0)) (.int .i64 (f i 1)) (.int .i64 (f i 2)) (.int .i64 (f i 3)) (.int .i64 (f i 4)) (.int .i64 (f i 5)) ∧ NeckAt W w.heap.size O Q no co nf cq sp tl ∧ Gr wo W ∧ wo.heap.size < W.heap.size := by
        rintro W rfl
        exact ⟨⟨by simp [go_sem], by simp [go_sem], by simp [go_sem], by simp [go_sem], by simp [go_sem], by simp [go_sem]⟩, hnk.keep hgw, hgw, by simp⟩
      clear c0 c1 c2' c3 c4 c5 hbl hgw
      generalize wo.alloc (.cells #[.int .i64 (f i 0), .int .i64 (f i 1), .int .i64 (f i 2), .int .i64 (f i 3), .int .i64 (f i 4), .int .i64 (f i 5)] 42) = wk at *
      obtain ⟨hs6, hnk2, hgw, hzk⟩ := v0' wk rfl
      clear v0' hnk
      have HS6 := Lib.hid hs6; have HNK2 := Lib.hid hnk2; have HGK := Lib.hid (HGR.out.trans hgw); have HL2 := Lib.hid (HLL.out.gr hgw)
      obtain ⟨e0, e1, e2, e3, e4, e5⟩ := hs6
      obtain ⟨hl0, b0, b1, b2, b3⟩ := hnk2
      clear hgw HLL HGR hgr
      generalize wo.heap.size = T10 at *
      rcases bool_tf (allIn (rowV f i) 48 6) with hv | hv
      · have hN : ∃ L : List (Nat × Nat), L = findF no o nf q tl ⟨f i 0, f i 1, f i 2, f i 3, f i 4, f i 5⟩ := ⟨_, rfl⟩
        obtain ⟨L, hLd⟩ := hN
        have hD := fun W g => HFD.out W g i hlt hv
        have hPl := fun W g => HPL.out W g i hlt hv
        have hln := HLN.out i
        rw [← hLd] at hD hPl hln
        by_cases hz : L.length = 0
        · have HD := Lib.hid (fun W g => (hD W g).mono fun e w' h => frR_lit (n := 0) h hz)
          clear hD hPl hln hz hv hLd
          go_wp2_with fail
          go_at_call 22
          refine (HD.out _ (HGK.out.trans (by repeat (first | with_reducible exact Gr.refl _ | with_reducible refine Gr.alloc ?_ _ | with_reducible refine Gr.drew ?_ | with_reducible refine Gr.trans ?_ (by assumption) | with_reducible refine Gr.setCell ?_ (by (try simp); (try omega)) _)))).mono ?_
          rintro e w4 ⟨A1, k1, rfl, -, -, hb⟩
          go_wp2_with fail
          go_ret
          exact ⟨rfl, HGK.out.trans (Gr.trans (by repeat (first | with_reducible exact Gr.refl _ | with_reducible refine Gr.alloc ?_ _ | with_reducible refine Gr.drew ?_ | with_reducible refine Gr.trans ?_ (by assumption) | with_reducible refine Gr.setCell ?_ (by (try simp); (try omega)) _)) hb)⟩
        · obtain ⟨N1, hN1⟩ : ∃ N1 : Nat, N1 = L.length := ⟨_, rfl⟩
          have HD := Lib.hid (fun W g => (hD W g).mono fun e w' h => frR_lit (n := N1) h hN1.symm)
          have hN1a : 0 < N1 := by omega
          have hN1b : N1 ≤ 296 := by omega
          obtain ⟨bb, boff, rfl, hbb, hby⟩ := HBY.out (by omega)
          obtain ⟨hby1, hg0, hg1⟩ := hby i (by omega)
          obtain ⟨x, hx, hxl⟩ : ∃ x : Nat, (g i).tmod (N1 : Int) = (x : Int) ∧ x < N1 := by
            refine ⟨((g i) % (N1 : Int)).toNat, ?_, ?_⟩
            · rw [Int.tmod_eq_emod_of_nonneg hg0]
              have := Int.emod_nonneg (g i) (show (N1 : Int) ≠ 0 by omega)
              omega
            · have := Int.emod_lt_of_pos (g i) (show (0 : Int) < (N1 : Int) by omega)
              have := Int.emod_nonneg (g i) (show (N1 : Int) ≠ 0 by omega)
              omega
          have hxm : L[x]? = some (L[x]'(by omega)) := List.getElem?_eq_getElem (by omega)
          obtain ⟨s, k, hsk⟩ : ∃ s k, L[x]'(by omega) = (s, k) := ⟨_, _, rfl⟩
          have hmem : (s, k) ∈ L := by rw [← hsk]; exact List.getElem_mem _
          have HM : Hid ((s, k) ∈ findF no o nf q tl ⟨f i 0, f i 1, f i 2, f i 3, f i 4, f i 5⟩) := Lib.hid (by rw [← hLd]; exact hmem)
          have hf0 : frF L x 0 = (s : Int) := by simp [frF, List.getD, hxm, hsk]
          have hf1 : frF L x 1 = (k : Int) := by simp [frF, List.getD, hxm, hsk]
          have HPC := Lib.hid (fun W g => hPl W g s k hmem)
          have HVS2 := Lib.hid (vecsB_next HVS.out hv)
          have hwg : IntKind.i64.wrap (g i) = g i := IntWalk.i64_in _ ⟨by omega, by omega⟩
          have hd1 : ((N1 : Int) == 0) = false := by simp; omega
          have hd2 : (N1 == 0) = false := by simp; omega
          clear hD hPl hln hz hv hLd hN1 hxm hsk hmem hby
          go_wp2_with fail
          go_at_call 22
          refine (HD.out _ (HGK.out.trans (by repeat (first | with_reducible exact Gr.refl _ | with_reducible refine Gr.alloc ?_ _ | with_reducible refine Gr.drew ?_ | with_reducible refine Gr.trans ?_ (by assumption) | with_reducible refine Gr.setCell ?_ (by (try simp); (try omega)) _)))).mono ?_
          rintro e w4 ⟨A1, k1, rfl, hr1, hlc1, hb⟩
          have hg4 : Gr wk w4 := Gr.trans (by repeat (first | with_reducible exact Gr.refl _ | with_reducible refine Gr.alloc ?_ _ | with_reducible refine Gr.drew ?_ | with_reducible refine Gr.trans ?_ (by assumption) | with_reducible refine Gr.setCell ?_ (by (try simp); (try omega)) _)) hb
          have HG4 := Lib.hid (HGK.out.trans hg4)
          have hnk4 := HNK2.out.keep hg4; have hs64 := HS6.out.keep hg4 hzk
          have hzk4 := Nat.lt_of_lt_of_le hzk hg4.le
          have HL4 := Lib.hid (HL2.out.gr hg4)
          have hby4 := (Below.cell (p := ⟨bb, boff + i, none⟩) HG4.out hbb).trans hby1
          have hbb4 := Nat.lt_of_lt_of_le hbb HG4.out.le
          obtain ⟨b', off', rfl, hbl', y0, y1⟩ := hr1.two hxl
          rw [hf0] at y0
          rw [hf1] at y1
          have HNK4 := Lib.hid hnk4; have HS64 := Lib.hid hs64
          obtain ⟨hl0', b0', b1', b2', b3'⟩ := hnk4
          obtain ⟨e0', e1', e2', e3', e4', e5'⟩ := hs64
          clear hl0 b0 b1 b2 b3 e0 e1 e2 e3 e4 e5 hb hr1 hg4 HGK HNK2 HS6 hzk HL2 hf0 hf1 hby1 hbb
          have hx0 : (0 : Int) ≤ (x : Int) := by omega
          have hx1 : (x : Int) < (N1 : Int) := by omega
          have hx2 : x < k1 := by omega
          have hi2 : (i : Int) < (m : Int) := by omega
          have hi3 : i < m := by omega
          go_upto_region 12 with fail
          have hgq : Gr w4 (w4.alloc (.cells #[.int .i64 (s : Int), .int .i64 (k : Int)] 37)) := (Gr.refl _).alloc _
          have v0' : ∀ W, W = w4.alloc (.cells #[.int .i64 (s : Int), .int .i64 (k : Int)] 37) → W.cell? ⟨w4.heap.size, 0, none⟩ = some (.int .i64 (s : Int)) ∧ W.cell? ⟨w4.heap.size, 1, none⟩ = some (.int .i64 (k : Int)) ∧ w4.heap.size < W.heap.size ∧ Gr w4 W := by
            rintro W rfl
            exact ⟨by simp [go_sem], by simp [go_sem], by simp, hgq⟩
          clear y0 y1 hgq hby4 hbb4 hl0' b0' b1' b2' b3' e0' e1' e2' e3' e4' e5'
          generalize w4.alloc (.cells #[.int .i64 (s : Int), .int .i64 (k : Int)] 37) = wq at *
          obtain ⟨x0, x1, x2, hgq⟩ := v0' wq rfl
          clear v0'
          have HX := Lib.hid (And.intro x0 (And.intro x1 x2))
          have HGQ := Lib.hid (HG4.out.trans hgq)
          have HL5 := Lib.hid (HL4.out.gr hgq)
          obtain ⟨hl0, b0, b1, b2, b3⟩ := HNK4.out.keep hgq
          obtain ⟨e0, e1, e2, e3, e4, e5⟩ := HS64.out.keep hgq hzk4
          have hzk5 := Nat.lt_of_lt_of_le hzk4 hgq.le
          clear hgq HG4 HL4 HNK4 HS64 hzk4
          generalize w4.heap.size = T13 at *
          go_wp2_with fail
          go_at_call 26
          refine (HPC.out _ (HGQ.out.trans (by repeat (first | with_reducible exact Gr.refl _ | with_reducible refine Gr.alloc ?_ _ | with_reducible refine Gr.drew ?_ | with_reducible refine Gr.trans ?_ (by assumption) | with_reducible refine Gr.setCell ?_ (by (try simp); (try omega)) _)))).mono ?_
          rintro e w5 ⟨rfl, hb5⟩
          have hg5 : Gr wq w5 := Gr.trans (by repeat (first | with_reducible exact Gr.refl _ | with_reducible refine Gr.alloc ?_ _ | with_reducible refine Gr.drew ?_ | with_reducible refine Gr.trans ?_ (by assumption) | with_reducible refine Gr.setCell ?_ (by (try simp); (try omega)) _)) hb5
          have x05 := (Below.cell (p := ⟨T13, 0, none⟩) hg5 HX.out.2.2).trans HX.out.1
          have x15 := (Below.cell (p := ⟨T13, 1, none⟩) hg5 HX.out.2.2).trans HX.out.2.1
          have x25 := Nat.lt_of_lt_of_le HX.out.2.2 hg5.le
          have HL6 := Lib.hid (HL5.out.gr hg5)
          have hsz6 := HL6.out.size
          clear x0 x1 x2 HX hl0 b0 b1 b2 b3 e0 e1 e2 e3 e4 e5 hb5 HL5 HGQ hg5
          go_wp2_with (at_builtin; refine wpList_append_own _ rfl _ _ 25 rfl W0.heap.size 37 i0 (.agg #[.int .i64 0, .int .i64 0]) 2 16 Tryd.underlying25 HINF.out.1 HINF.out.2.1 HINF.out.2.2.1 HINF.out.2.2.2 rfl (by decide) _ _ _ rfl (HL6.out.own.alloc _) ⟨w5.heap.size, 0, none⟩ 1 1 [.int .i64 (s : Int), .int .i64 (k : Int)] rfl rfl (cell_two_new _ _ _ _) (by intro u hu; simp at hu; rcases hu with rfl | rfl <;> rfl) (by unfold maxLen; omega) (by omega) (by simp; omega) ?_; intro lv' w6 hown1 hgrow hnil)
          have HL7 : Hid (OwnL W0.heap.size 37 2 W0 lv' (i + 1) (frCells (p ++ [(s, k)])) w6) := Lib.hid (by
            have z := (HL6.out.alloc _).grown hown1 hgrow
            rw [frCells_snoc]
            exact z)
          clear hown1 hgrow hnil
          go_wp2_with fail
          go_roundw
          case rel => exact ⟨_, i + 1, p ++ [(s, k)], rfl, by omega, rfl, by go_num, HVS2.out, HDR.out.snoc HM.out, HL7.out⟩
          case measure => simp [intOf]; omega
      · have HFX := Lib.hid (fun W g => HFB.out W g i hlt hv)
        clear hv
        go_wp2_with fail
        (go_at_call 22; with_reducible refine (HFX.out _ (HGK.out.trans (by repeat (first | with_reducible exact Gr.refl _ | with_reducible refine Gr.alloc ?_ _ | with_reducible refine Gr.drew ?_ | with_reducible refine Gr.trans ?_ (by assumption) | with_reducible refine Gr.setCell ?_ (by (try simp); (try omega)) _)))).mono ?_; rintro e w' ⟨rfl, hb⟩; have hz := hb.le; obtain ⟨hc, hf⟩ := hb.cells; have hn := hb.cellsN; (try simp only [World.size_alloc] at hc hf hz hn); (try simp only [World.size_setCell] at hc hf hz hn); (try simp only [World.size_drew] at hc hf hz hn))
        go_wp2_with fail
        go_ret
        exact ⟨rfl, HGK.out.trans (by repeat (first | with_reducible exact Gr.refl _ | with_reducible refine Gr.alloc ?_ _ | with_reducible refine Gr.drew ?_ | with_reducible refine Gr.trans ?_ (by assumption) | with_reducible refine Gr.setCell ?_ (by (try simp); (try omega)) _))⟩
    · obtain rfl : n = i := by omega
      have hlt' : decide ((n : Int) < (n : Int)) = false := decide_eq_false (by omega)
      obtain ⟨A2, c2, rfl, hrows, -⟩ := rows_of_own HLL.out.own (frF p) (fun i j hi hj => frCells_at _ i j (by have := HDR.out.len; rw [optsF_len] at this; omega) hj)
      have hcap := own_cap HLL.out.own
      have hpl : p.length = n := by rw [HDR.out.len, optsF_len]
      have HROW := Lib.hid hrows
      have HFI0 := Lib.hid (fun W (g : Gr wo W) => HFT.out W (HGR.out.trans g) A2 c2 p (hrows.keep g) hcap HDR.out)
      have hplain := HFP.out p HVS.out HDR.out
      have hcc := fun W (g : Gr wo W) => HC.out W (HGR.out.trans g)
      have HNK7 := Lib.hid hnk
      obtain ⟨hl0, b0, b1, b2, b3⟩ := hnk
      clear hrows hgr HFB HFD HPL HFT HC HFP HLN HBY HL HP HLL HDR HVS HNK hcap
      generalize heldL sp p = H at *
      generalize chordL no o nf q sp tl f n = R at *
      rcases hplain with hE | ⟨hE, hH⟩ | ⟨hE, hRl, hbef⟩
      · rw [hE] at hcc
        have HCC := Lib.hid (fun W g => (hcc W g).mono fun e w' h => frR_lit (n := R.length) h rfl)
        clear hcc hE
        rcases bool_tf H with hH | hH
        · subst hH
          have HFI := HFI0
          clear HFI0
          go_wp2_with fail
          go_at_call 18
          refine (HFI.out _ (by repeat (first | with_reducible exact Gr.refl _ | with_reducible refine Gr.alloc ?_ _ | with_reducible refine Gr.drew ?_ | with_reducible refine Gr.trans ?_ (by assumption) | with_reducible refine Gr.setCell ?_ (by (try simp); (try omega)) _))).mono ?_
          rintro e w3 ⟨rfl, hb3⟩
          have hg3 : Gr wo w3 := Gr.trans (by repeat (first | with_reducible exact Gr.refl _ | with_reducible refine Gr.alloc ?_ _ | with_reducible refine Gr.drew ?_ | with_reducible refine Gr.trans ?_ (by assumption) | with_reducible refine Gr.setCell ?_ (by (try simp); (try omega)) _)) hb3
          have HG3 := Lib.hid hg3
          have HROW3 := Lib.hid (HROW.out.keep hg3)
          obtain ⟨hl0', b0', b1', b2', b3'⟩ := HNK7.out.keep hg3
          clear hl0 b0 b1 b2 b3 hb3 hg3
          go_wp2_with fail
          go_at_call 15
          refine (HCC.out _ (HG3.out.trans (by repeat (first | with_reducible exact Gr.refl _ | with_reducible refine Gr.alloc ?_ _ | with_reducible refine Gr.drew ?_ | with_reducible refine Gr.trans ?_ (by assumption) | with_reducible refine Gr.setCell ?_ (by (try simp); (try omega)) _)))).mono ?_
          rintro e w4 ⟨A4, c4, rfl, hr4, hc4, hb4⟩
          have hg4 : Gr w3 w4 := Gr.trans (by repeat (first | with_reducible exact Gr.refl _ | with_reducible refine Gr.alloc ?_ _ | with_reducible refine Gr.drew ?_ | with_reducible refine Gr.trans ?_ (by assumption) | with_reducible refine Gr.setCell ?_ (by (try simp); (try omega)) _)) hb4
          have HR4 := Lib.hid hr4
          have HG4 := Lib.hid (HGR.out.trans (HG3.out.trans hg4))
          have HROW4 := Lib.hid (HROW3.out.keep hg4)
          clear hl0' b0' b1' b2' b3' hb4 hg4 hr4
          go_wp2_with fail
          go_ret
          exact ⟨ret_bool (by simp), HG4.out.trans (by repeat (first | with_reducible exact Gr.refl _ | with_reducible refine Gr.alloc ?_ _ | with_reducible refine Gr.drew ?_ | with_reducible refine Gr.trans ?_ (by assumption) | with_reducible refine Gr.setCell ?_ (by (try simp); (try omega)) _))⟩
        · subst hH
          have HFI := HFI0
          clear HFI0
          go_wp2_with fail
          go_at_call 18
          refine (HFI.out _ (by repeat (first | with_reducible exact Gr.refl _ | with_reducible refine Gr.alloc ?_ _ | with_reducible refine Gr.drew ?_ | with_reducible refine Gr.trans ?_ (by assumption) | with_reducible refine Gr.setCell ?_ (by (try simp); (try omega)) _))).mono ?_
          rintro e w3 ⟨rfl, hb3⟩
          have hg3 : Gr wo w3 := Gr.trans (by repeat (first | with_reducible exact Gr.refl _ | with_reducible refine Gr.alloc ?_ _ | with_reducible refine Gr.drew ?_ | with_reducible refine Gr.trans ?_ (by assumption) | with_reducible refine Gr.setCell ?_ (by (try simp); (try omega)) _)) hb3
          have HG3 := Lib.hid hg3
          have HROW3 := Lib.hid (HROW.out.keep hg3)
          obtain ⟨hl0', b0', b1', b2', b3'⟩ := HNK7.out.keep hg3
          clear hl0 b0 b1 b2 b3 hb3 hg3
          go_wp2_with fail
          go_at_call 15
          refine (HCC.out _ (HG3.out.trans (by repeat (first | with_reducible exact Gr.refl _ | with_reducible refine Gr.alloc ?_ _ | with_reducible refine Gr.drew ?_ | with_reducible refine Gr.trans ?_ (by assumption) | with_reducible refine Gr.setCell ?_ (by (try simp); (try omega)) _)))).mono ?_
          rintro e w4 ⟨A4, c4, rfl, hr4, hc4, hb4⟩
          have hg4 : Gr w3 w4 := Gr.trans (by repeat (first | with_reducible exact Gr.refl _ | with_reducible refine Gr.alloc ?_ _ | with_reducible refine Gr.drew ?_ | with_reducible refine Gr.trans ?_ (by assumption) | with_reducible refine Gr.setCell ?_ (by (try simp); (try omega)) _)) hb4
          have HR4 := Lib.hid hr4
          have HG4 := Lib.hid (HGR.out.trans (HG3.out.trans hg4))
          have HROW4 := Lib.hid (HROW3.out.keep hg4)
          clear hl0' b0' b1' b2' b3' hb4 hg4 hr4
          go_wp2_with fail
          go_ret
          exact ⟨ret_bool (by simp), HG4.out.trans (by repeat (first | with_reducible exact Gr.refl _ | with_reducible refine Gr.alloc ?_ _ | with_reducible refine Gr.drew ?_ | with_reducible refine Gr.trans ?_ (by assumption) | with_reducible refine Gr.setCell ?_ (by (try simp); (try omega)) _))⟩
      · rw [hE] at hcc
        have HCC := Lib.hid (fun W g => (hcc W g).mono fun e w' h => frR_lit (n := R.length) h rfl)
        clear hcc hE
        subst hH
        have HFI := HFI0
        clear HFI0
        go_wp2_with fail
        go_at_call 18
        refine (HFI.out _ (by repeat (first | with_reducible exact Gr.refl _ | with_reducible refine Gr.alloc ?_ _ | with_reducible refine Gr.drew ?_ | with_reducible refine Gr.trans ?_ (by assumption) | with_reducible refine Gr.setCell ?_ (by (try simp); (try omega)) _))).mono ?_
        rintro e w3 ⟨rfl, hb3⟩
        have hg3 : Gr wo w3 := Gr.trans (by repeat (first | with_reducible exact Gr.refl _ | with_reducible refine Gr.alloc ?_ _ | with_reducible refine Gr.drew ?_ | with_reducible refine Gr.trans ?_ (by assumption) | with_reducible refine Gr.setCell ?_ (by (try simp); (try omega)) _)) hb3
        have HG3 := Lib.hid hg3
        have HROW3 := Lib.hid (HROW.out.keep hg3)
        obtain ⟨hl0', b0', b1', b2', b3'⟩ := HNK7.out.keep hg3
        clear hl0 b0 b1 b2 b3 hb3 hg3
        go_wp2_with fail
        go_at_call 15
        refine (HCC.out _ (HG3.out.trans (by repeat (first | with_reducible exact Gr.refl _ | with_reducible refine Gr.alloc ?_ _ | with_reducible refine Gr.drew ?_ | with_reducible refine Gr.trans ?_ (by assumption) | with_reducible refine Gr.setCell ?_ (by (try simp); (try omega)) _)))).mono ?_
        rintro e w4 ⟨A4, c4, rfl, hr4, hc4, hb4⟩
        have hg4 : Gr w3 w4 := Gr.trans (by repeat (first | with_reducible exact Gr.refl _ | with_reducible refine Gr.alloc ?_ _ | with_reducible refine Gr.drew ?_ | with_reducible refine Gr.trans ?_ (by assumption) | with_reducible refine Gr.setCell ?_ (by (try simp); (try omega)) _)) hb4
        have HR4 := Lib.hid hr4
        have HG4 := Lib.hid (HGR.out.trans (HG3.out.trans hg4))
        have HROW4 := Lib.hid (HROW3.out.keep hg4)
        clear hl0' b0' b1' b2' b3' hb4 hg4 hr4
        go_wp2_with fail
        go_ret
        exact ⟨ret_bool (by simp), HG4.out.trans (by repeat (first | with_reducible exact Gr.refl _ | with_reducible refine Gr.alloc ?_ _ | with_reducible refine Gr.drew ?_ | with_reducible refine Gr.trans ?_ (by assumption) | with_reducible refine Gr.setCell ?_ (by (try simp); (try omega)) _))⟩
      · rw [hE] at hcc
        have HCC := Lib.hid (fun W g => (hcc W g).mono fun e w' h => frR_lit (n := n) h hRl)
        clear hcc hE
        rcases bool_tf H with hH | hH
        · subst hH
          have HFI := HFI0
          have HBEF : Hid (befB p R = false) := Lib.hid (hbef rfl)
          clear HFI0 hbef
          go_wp2_with fail
          go_at_call 18
          refine (HFI.out _ (by repeat (first | with_reducible exact Gr.refl _ | with_reducible refine Gr.alloc ?_ _ | with_reducible refine Gr.drew ?_ | with_reducible refine Gr.trans ?_ (by assumption) | with_reducible refine Gr.setCell ?_ (by (try simp); (try omega)) _))).mono ?_
          rintro e w3 ⟨rfl, hb3⟩
          have hg3 : Gr wo w3 := Gr.trans (by repeat (first | with_reducible exact Gr.refl _ | with_reducible refine Gr.alloc ?_ _ | with_reducible refine Gr.drew ?_ | with_reducible refine Gr.trans ?_ (by assumption) | with_reducible refine Gr.setCell ?_ (by (try simp); (try omega)) _)) hb3
          have HG3 := Lib.hid hg3
          have HROW3 := Lib.hid (HROW.out.keep hg3)
          obtain ⟨hl0', b0', b1', b2', b3'⟩ := HNK7.out.keep hg3
          clear hl0 b0 b1 b2 b3 hb3 hg3
          go_wp2_with fail
          go_at_call 15
          refine (HCC.out _ (HG3.out.trans (by repeat (first | with_reducible exact Gr.refl _ | with_reducible refine Gr.alloc ?_ _ | with_reducible refine Gr.drew ?_ | with_reducible refine Gr.trans ?_ (by assumption) | with_reducible refine Gr.setCell ?_ (by (try simp); (try omega)) _)))).mono ?_
          rintro e w4 ⟨A4, c4, rfl, hr4, hc4, hb4⟩
          have hg4 : Gr w3 w4 := Gr.trans (by repeat (first | with_reducible exact Gr.refl _ | with_reducible refine Gr.alloc ?_ _ | with_reducible refine Gr.drew ?_ | with_reducible refine Gr.trans ?_ (by assumption) | with_reducible refine Gr.setCell ?_ (by (try simp); (try omega)) _)) hb4
          have HR4 := Lib.hid hr4
          have HG4 := Lib.hid (HGR.out.trans (HG3.out.trans hg4))
          have HROW4 := Lib.hid (HROW3.out.keep hg4)
          clear hl0' b0' b1' b2' b3' hb4 hg4 hr4
          have HBB := Lib.hid (before_ok A2 n c2 p A4 c4 R w4 HROW4.out HR4.out hpl hRl (by omega))
          rw [HBEF.out] at HBB
          have hnn : ((n : Int) == (n : Int)) = true := by simp
          go_wp2_with fail
          (go_at_call 27; with_reducible refine (HBB.out).mono ?_; rintro e w' ⟨rfl, hb⟩; have hz := hb.le; obtain ⟨hc, hf⟩ := hb.cells; have hn := hb.cellsN; (try simp only [World.size_alloc] at hc hf hz hn); (try simp only [World.size_setCell] at hc hf hz hn); (try simp only [World.size_drew] at hc hf hz hn))
          go_wp2_with fail
          go_ret
          exact ⟨ret_bool (by simp), HG4.out.trans (by repeat (first | with_reducible exact Gr.refl _ | with_reducible refine Gr.alloc ?_ _ | with_reducible refine Gr.drew ?_ | with_reducible refine Gr.trans ?_ (by assumption) | with_reducible refine Gr.setCell ?_ (by (try simp); (try omega)) _))⟩
        · subst hH
          have HFI := HFI0
          clear HFI0 hbef
          go_wp2_with fail
          go_at_call 18
          refine (HFI.out _ (by repeat (first | with_reducible exact Gr.refl _ | with_reducible refine Gr.alloc ?_ _ | with_reducible refine Gr.drew ?_ | with_reducible refine Gr.trans ?_ (by assumption) | with_reducible refine Gr.setCell ?_ (by (try simp); (try omega)) _))).mono ?_
          rintro e w3 ⟨rfl, hb3⟩
          have hg3 : Gr wo w3 := Gr.trans (by repeat (first | with_reducible exact Gr.refl _ | with_reducible refine Gr.alloc ?_ _ | with_reducible refine Gr.drew ?_ | with_reducible refine Gr.trans ?_ (by assumption) | with_reducible refine Gr.setCell ?_ (by (try simp); (try omega)) _)) hb3
          have HG3 := Lib.hid hg3
          have HROW3 := Lib.hid (HROW.out.keep hg3)
          obtain ⟨hl0', b0', b1', b2', b3'⟩ := HNK7.out.keep hg3
          clear hl0 b0 b1 b2 b3 hb3 hg3
          go_wp2_with fail
          go_at_call 15
          refine (HCC.out _ (HG3.out.trans (by repeat (first | with_reducible exact Gr.refl _ | with_reducible refine Gr.alloc ?_ _ | with_reducible refine Gr.drew ?_ | with_reducible refine Gr.trans ?_ (by assumption) | with_reducible refine Gr.setCell ?_ (by (try simp); (try omega)) _)))).mono ?_
          rintro e w4 ⟨A4, c4, rfl, hr4, hc4, hb4⟩
          have hg4 : Gr w3 w4 := Gr.trans (by repeat (first | with_reducible exact Gr.refl _ | with_reducible refine Gr.alloc ?_ _ | with_reducible refine Gr.drew ?_ | with_reducible refine Gr.trans ?_ (by assumption) | with_reducible refine Gr.setCell ?_ (by (try simp); (try omega)) _)) hb4
          have HR4 := Lib.hid hr4
          have HG4 := Lib.hid (HGR.out.trans (HG3.out.trans hg4))
          have HROW4 := Lib.hid (HROW3.out.keep hg4)
          clear hl0' b0' b1' b2' b3' hb4 hg4 hr4
          go_wp2_with fail
          go_ret
          exact ⟨ret_bool (by simp), HG4.out.trans (by repeat (first | with_reducible exact Gr.refl _ | with_reducible refine Gr.alloc ?_ _ | with_reducible refine Gr.drew ?_ | with_reducible refine Gr.trans ?_ (by assumption) | with_reducible refine Gr.setCell ?_ (by (try simp); (try omega)) _))⟩
theorem lfst_law (O Q : Option Addr) (no co nf cq : Nat) (sp tl : Int) (o q : Nat → Nat → Int) (A B : Option Addr) (n c m cm : Nat) (f : Nat → Nat → Int) (g : Nat → Int) (w : World) (hP : Primes w) (hL : Logs w) (hO : RowsAt w 6 O no o) (hQ : RowsAt w 6 Q nf q) (hA : RowsAt w 6 A n f) (hB : (0 < m → ∃ b off, B = some ⟨b, off, none⟩ ∧ b < w.heap.size ∧ ∀ i, i < m → w.cell? ⟨b, off + i, none⟩ = some (.int .u8 (g i)) ∧ 0 ≤ g i ∧ g i ≤ 255)) (hno : no ≤ 9223372036854775807) (hnf : nf ≤ 9223372036854775807) (hm : m ≤ 9223372036854775807) :
    Calls Tryd.prog 6 #[.agg #[.slice O no co, .slice Q nf cq, .int .i64 sp, .int .i64 tl], .slice A n c, .slice B m cm] w fun e w' => e = .returned (.bool true) ∧ Gr w w' := by
  rcases bool_tf (fewB no nf n && (decide (n ≤ m) && neckB no o nf q sp tl)) with h | h
  · exact lfst_ok O Q no co nf cq sp tl o q A B n c m cm f g w hP hL hO hQ hA hB hno hnf hm h
  · exact lfst_skip O Q no co nf cq sp tl o q A B n c m cm w hP hL hO hQ hno hnf h
end Go.Proofs.YtohalcookjbaaaaDoor
