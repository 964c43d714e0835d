/-
  schismalaw25.joined: takes that are joined to others.
-/
import Derived.Test.YtelhmdhhabgihaaDoorPlX
import Derived.Test.YtelhmdhhabgihaaDoorOwnL
namespace Go.Proofs.YtelhmdhhabgihaaDoor
open Go.RowKit

theorem own_emptyS {W : World} {base g sz : Nat} {e : TypeId} (h : W.heap[g]? = some (.cells #[] e (0, 0))) (hb : base ≤ g) : W.ownsRow base e sz (.slice (some ⟨g, 0, none⟩) 0 0) 0 [] :=
  ⟨by simp, .inr ⟨g, 0, #[], rfl, hb, h, Nat.le_refl _, Nat.zero_le _, by simp, by simp⟩⟩
theorem row4C_congr {g g' : Nat → Nat → Int} : ∀ n, (∀ i, i < n → ∀ j, j < 4 → g i j = g' i j) → row4C g n = row4C g' n
  | 0, _ => rfl
  | n + 1, h => by
    rw [row4C, row4C, row4C_congr n (fun i hi => h i (by omega)), h n (by omega) 0 (by omega), h n (by omega) 1 (by omega), h n (by omega) 2 (by omega), h n (by omega) 3 (by omega)]
theorem row4C_one (g : Nat → Nat → Int) (n : Nat) : ∀ u ∈ row4C g n, u.oneCell' = true := by
  induction n with
  | zero => intro u hu; simp [row4C] at hu
  | succ n ih =>
    intro u hu
    rw [row4C, List.mem_append] at hu
    rcases hu with hu | hu
    · exact ih u hu
    · simp only [List.mem_cons, List.not_mem_nil, or_false] at hu
      rcases hu with rfl | rfl | rfl | rfl <;> rfl
theorem row4_news {W : World} {b off n : Nat} {g : Nat → Nat → Int} (h : ∀ i, i < n → ∀ j, j < 4 → W.cell? ⟨b, off + i * 4 + j, none⟩ = some (.int .i64 (g i j))) : ∀ j u, (row4C g n)[j]? = some u → W.cell? ((⟨b, off, none⟩ : Addr).add j) = some u := by
  intro j u hj
  have hlt := (List.getElem?_eq_some_iff.1 hj).1
  rw [row4C_len] at hlt
  have e := row4C_at g n (j / 4) (j % 4) (by omega) (by omega)
  rw [show j / 4 * 4 + j % 4 = j by omega] at e
  rw [e] at hj
  cases hj
  rw [Addr.add_lit, ← h (j / 4) (by omega) (j % 4) (by omega)]
  congr 2
  omega
/-- What a list of takes of the call's own is. -/
def TksR (L : Nat) (g : Nat → Nat → Int) (w : World) (e : Ending) (w' : World) : Prop := ∃ (A : Option Addr) (c : Nat), e = .returned (.slice A L c) ∧ RowsAt w' 4 A L g ∧ L ≤ c ∧ Gr w w'
set_option maxRecDepth 100000 in
set_option maxHeartbeats 16000000 in
theorem joined_any (A B : Option Addr) (m d k c : Nat) (t t2 : Nat → Nat → Int) (w : World) (hA : RowsAt w 4 A m t) (hB : RowsAt w 4 B k t2) (hm : m ≤ 15) (hk : k ≤ 15) :
    Calls Tryd.prog 18 #[.slice A m d, .slice B k c] w (TksR (m + k) (jnT t t2 m) w) := by
  obtain ⟨i0, hin, hz0, hz1, hz2⟩ := info_parts infoTake
  have HINF := Lib.hid (And.intro hin (And.intro hz0 (And.intro hz1 hz2)))
  have HB := Lib.hid hB
  clear hin hz0 hz1 hz2 hB
  cases A with
  | none =>
    have h0 : m = 0 := by
      rcases Nat.eq_zero_or_pos m with h | h
      · exact h
      · obtain ⟨b, off, h, -⟩ := hA h; cases h
    clear hA
    have HL0 : Hid (OwnL w.heap.size 49 4 w (.slice (some ⟨w.heap.size, 0, none⟩) 0 0) (m + 0) (row4C (jnT t t2 m) (m + 0)) (w.alloc (.cells #[] 49))) := Lib.hid (by subst h0; exact ⟨(Gr.refl _).alloc _, own_emptyS (World.alloc_heap_new _ _) (Nat.le_refl _), by simp⟩)
    have H0 := Lib.hid h0
    go_enter Tryd.func18, Tryd.ntmps18
    go_wp2_with fail
    clear h0
    go_loopw [5, 6] (fun lv iv wr => ∃ (LV : Value) (i : Nat), LV = lv ∧ i ≤ k ∧ iv = .int .i64 (i : Int) ∧ OwnL w.heap.size 49 4 w LV (m + i) (row4C (jnT t t2 m) (m + i)) wr) (fun _ iv _ => k - (intOf iv).toNat)
    case atStart => exact ⟨_, 0, rfl, Nat.zero_le _, rfl, HL0.out⟩
    case round =>
      obtain ⟨lv, i, rfl, hi, rfl, hL⟩ := hrel
      have HL2 := Lib.hid hL
      have HGR := Lib.hid (hL.toGr (Gr.refl _) (Nat.le_refl _))
      have hsz := hL.size
      obtain ⟨wp, rfl⟩ : ∃ wp : World, wp = wr := ⟨_, rfl⟩
      by_cases hlt : i < k
      · have hlt' : decide ((i : Int) < (k : Int)) = true := decide_eq_true (by omega)
        obtain ⟨b, off, rfl, hbl, hcc⟩ := (HB.out.keep HGR.out).at_ hlt
        have c0 := hcc 0 (by omega); have c1 := hcc 1 (by omega); have c2 := hcc 2 (by omega); have c3 := hcc 3 (by omega)
        simp only [Nat.add_zero] at c0
        obtain ⟨A3, c3', hlv, -, -⟩ := rows_of_own hL.own (jnT t t2 m) (fun i j hi hj => row4C_at _ _ i j hi hj)
        subst hlv
        have hR4 : row4C (jnT t t2 m) (m + (i + 1)) = row4C (jnT t t2 m) (m + i) ++ [.int .i64 (((m + i : Nat) : Int) + 1), .int .i64 (t2 i 1), .int .i64 (t2 i 2), .int .i64 (t2 i 3)] := by
          rw [show m + (i + 1) = m + i + 1 by omega, row4C]
          have a : ∀ j, j ≠ 0 → jnT t t2 m (m + i) j = t2 i j := fun j hj => by unfold jnT; rw [if_neg (by omega), if_neg hj, Nat.add_sub_cancel_left]
          have a0 : jnT t t2 m (m + i) 0 = ((m + i : Nat) : Int) + 1 := by unfold jnT; rw [if_neg (by omega), if_pos rfl]
          rw [a 1 (by omega), a 2 (by omega), a 3 (by omega), a0]
        have HR4 := Lib.hid hR4
        clear hcc hL hR4
        generalize t2 i 0 = t0 at *
        generalize t2 i 1 = t1 at *
        generalize t2 i 2 = t2' at *
        generalize t2 i 3 = t3 at *
        obtain ⟨ik, hik⟩ : ∃ ik, ik = m + i := ⟨_, rfl⟩
        rw [← hik] at HL2 HR4 ⊢
        have hikb : ik ≤ 30 := by omega
        have HIK := Lib.hid hik
        clear hik
        have hw3 : IntKind.i64.wrap ((ik : Int) + 1) = (ik : Int) + 1 := IntWalk.i64_in _ ⟨by omega, by omega⟩
        go_upto_region 7 with fail
        have v1' : ∀ W, W = wp.alloc (.cells #[.int .i64 ((ik : Int) + 1), .int .i64 t1, .int .i64 t2', .int .i64 t3] 49) → W.cell? ⟨wp.heap.size, 0, none⟩ = some (.int .i64 ((ik : Int) + 1)) ∧ W.cell? ⟨wp.heap.size, 1, none⟩ = some (.int .i64 t1) ∧ W.cell? ⟨wp.heap.size, 2, none⟩ = some (.int .i64 t2') ∧ W.cell? ⟨wp.heap.size, 3, none⟩ = some (.int .i64 t3) ∧ wp.heap.size < W.heap.size ∧ Gr wp W := by
          rintro W rfl
          exact ⟨by simp [go_sem], by simp [go_sem], by simp [go_sem], by simp [go_sem], by simp, (by repeat (first | with_reducible exact Gr.refl _ | with_reducible refine Gr.alloc ?_ _ | with_reducible refine Gr.drew ?_ | with_reducible refine Gr.trans ?_ (by assumption) | with_reducible refine Gr.setCell ?_ (by (try simp); (try omega)) _))⟩
        clear c0 c1 c2 c3 hbl
        generalize hwq : wp.alloc (.cells #[.int .i64 ((ik : Int) + 1), .int .i64 t1, .int .i64 t2', .int .i64 t3] 49) = wq at *
        obtain ⟨e0, e1, e2, e3, hzq, hgq⟩ := v1' wq rfl
        have HLQ := Lib.hid (HL2.out.gr hgq)
        have hszq := HLQ.out.size
        clear v1' hgq hwq
        go_wp2_with (at_builtin; refine wpList_append_own _ rfl _ _ 23 rfl w.heap.size 49 i0 (.agg #[.int .i64 0, .int .i64 0, .int .i64 0, .int .i64 0]) 4 32 Tryd.underlying23 HINF.out.1 HINF.out.2.1 HINF.out.2.2.1 HINF.out.2.2.2 rfl (by decide) _ _ _ rfl (HLQ.out.own.alloc _) ⟨wq.heap.size, 0, none⟩ 1 1 [.int .i64 ((ik : Int) + 1), .int .i64 t1, .int .i64 t2', .int .i64 t3] rfl rfl (cell_four_new _ _ _ _ _ _) (by intro u hu; simp at hu; rcases hu with rfl | rfl | rfl | rfl <;> rfl) (by unfold maxLen; omega) (by omega) (by simp; omega) ?_; intro lv' w5 hown1 hgrow hnil)
        have HL3 : Hid (OwnL w.heap.size 49 4 w lv' (m + (i + 1)) (row4C (jnT t t2 m) (m + (i + 1))) w5) := Lib.hid (by
          have z := (HLQ.out.alloc _).grown hown1 hgrow
          rw [HR4.out, show m + (i + 1) = ik + 1 by rw [HIK.out]; omega]
          exact z)
        clear hown1 hgrow hnil
        go_wp2_with fail
        go_roundw
        case rel => exact ⟨_, i + 1, rfl, by omega, by go_num, HL3.out⟩
        case measure => simp [intOf]; omega
      · obtain rfl : k = i := by omega
        have hlt' : decide ((k : Int) < (k : Int)) = false := decide_eq_false (by omega)
        obtain ⟨A3, c3', hlv, hrows, -⟩ := rows_of_own hL.own (jnT t t2 m) (fun i j hi hj => row4C_at _ _ i j hi hj)
        subst hlv
        have HRW := Lib.hid (And.intro hrows (own_cap1 hL.own))
        clear hL hrows
        go_wp2_with fail

        go_ret
        exact ⟨_, _, rfl, HRW.out.1, HRW.out.2, HGR.out⟩
  | some ad =>
    obtain ⟨b0, o0, x0⟩ := ad
    have hbl : ∀ j u, (row4C t m)[j]? = some u → (w.alloc (.cells #[] 49)).cell? ((⟨b0, o0, x0⟩ : Addr).add j) = some u := by
      intro j u hj
      have hlt := (List.getElem?_eq_some_iff.1 hj).1
      rw [row4C_len] at hlt
      obtain ⟨b, off, h, hb, hc⟩ := hA (by omega)
      cases h
      refine row4_news (fun i hi l hl => ?_) j u hj
      exact (Below.cell (p := ⟨_, _, none⟩) ((Gr.refl w).alloc _) hb).trans (hc i hi l hl)
    have HN := Lib.hid hbl
    clear hA hbl
    go_enter Tryd.func18, Tryd.ntmps18
    go_wp2_with (at_builtin; refine wpList_append_own _ rfl _ _ 23 rfl w.heap.size 49 i0 (.agg #[.int .i64 0, .int .i64 0, .int .i64 0, .int .i64 0]) 4 32 Tryd.underlying23 HINF.out.1 HINF.out.2.1 HINF.out.2.2.1 HINF.out.2.2.2 rfl (by decide) _ _ _ rfl (own_emptyS (World.alloc_heap_new _ _) (Nat.le_refl _)) ⟨b0, o0, x0⟩ m d (row4C t m) rfl (by rw [row4C_len]) HN.out (row4C_one t m) (by unfold maxLen; omega) (by omega) (by simp) ?_; intro lv' w3 hown1 hgrow hnil; replace hgrow : (w.alloc (.cells #[] 49)).grownBy w3 (some w.heap.size) := hgrow)
    rw [Nat.zero_add, List.nil_append] at hown1
    have HL0 : Hid (OwnL w.heap.size 49 4 w lv' (m + 0) (row4C (jnT t t2 m) (m + 0)) w3) := Lib.hid (by
      rw [Nat.add_zero, row4C_congr (g' := t) m (fun i hi j _ => by unfold jnT; rw [if_pos hi])]
      exact ⟨(Below.mono ((Gr.refl w).alloc _) (Nat.le_refl _)).grown hgrow (by simp) (fun k hk => by cases hk; exact Nat.le_refl _), hown1, Nat.le_trans (by simp) hgrow.size⟩)
    clear hown1 hgrow hnil
    go_wp2_with fail
    go_loopw [5, 6] (fun lv iv wr => ∃ (LV : Value) (i : Nat), LV = lv ∧ i ≤ k ∧ iv = .int .i64 (i : Int) ∧ OwnL w.heap.size 49 4 w LV (m + i) (row4C (jnT t t2 m) (m + i)) wr) (fun _ iv _ => k - (intOf iv).toNat)
    case atStart => exact ⟨_, 0, rfl, Nat.zero_le _, rfl, HL0.out⟩
    case round =>
      obtain ⟨lv, i, rfl, hi, rfl, hL⟩ := hrel
      have HL2 := Lib.hid hL
      have HGR := Lib.hid (hL.toGr (Gr.refl _) (Nat.le_refl _))
      have hsz := hL.size
      obtain ⟨wp, rfl⟩ : ∃ wp : World, wp = wr := ⟨_, rfl⟩
      by_cases hlt : i < k
      · have hlt' : decide ((i : Int) < (k : Int)) = true := decide_eq_true (by omega)
        obtain ⟨b, off, rfl, hbl, hcc⟩ := (HB.out.keep HGR.out).at_ hlt
        have c0 := hcc 0 (by omega); have c1 := hcc 1 (by omega); have c2 := hcc 2 (by omega); have c3 := hcc 3 (by omega)
        simp only [Nat.add_zero] at c0
        obtain ⟨A3, c3', hlv, -, -⟩ := rows_of_own hL.own (jnT t t2 m) (fun i j hi hj => row4C_at _ _ i j hi hj)
        subst hlv
        have hR4 : row4C (jnT t t2 m) (m + (i + 1)) = row4C (jnT t t2 m) (m + i) ++ [.int .i64 (((m + i : Nat) : Int) + 1), .int .i64 (t2 i 1), .int .i64 (t2 i 2), .int .i64 (t2 i 3)] := by
          rw [show m + (i + 1) = m + i + 1 by omega, row4C]
          have a : ∀ j, j ≠ 0 → jnT t t2 m (m + i) j = t2 i j := fun j hj => by unfold jnT; rw [if_neg (by omega), if_neg hj, Nat.add_sub_cancel_left]
          have a0 : jnT t t2 m (m + i) 0 = ((m + i : Nat) : Int) + 1 := by unfold jnT; rw [if_neg (by omega), if_pos rfl]
          rw [a 1 (by omega), a 2 (by omega), a 3 (by omega), a0]
        have HR4 := Lib.hid hR4
        clear hcc hL hR4
        generalize t2 i 0 = t0 at *
        generalize t2 i 1 = t1 at *
        generalize t2 i 2 = t2' at *
        generalize t2 i 3 = t3 at *
        obtain ⟨ik, hik⟩ : ∃ ik, ik = m + i := ⟨_, rfl⟩
        rw [← hik] at HL2 HR4 ⊢
        have hikb : ik ≤ 30 := by omega
        have HIK := Lib.hid hik
        clear hik
        have hw3 : IntKind.i64.wrap ((ik : Int) + 1) = (ik : Int) + 1 := IntWalk.i64_in _ ⟨by omega, by omega⟩
        go_upto_region 7 with fail
        have v1' : ∀ W, W = wp.alloc (.cells #[.int .i64 ((ik : Int) + 1), .int .i64 t1, .int .i64 t2', .int .i64 t3] 49) → W.cell? ⟨wp.heap.size, 0, none⟩ = some (.int .i64 ((ik : Int) + 1)) ∧ W.cell? ⟨wp.heap.size, 1, none⟩ = some (.int .i64 t1) ∧ W.cell? ⟨wp.heap.size, 2, none⟩ = some (.int .i64 t2') ∧ W.cell? ⟨wp.heap.size, 3, none⟩ = some (.int .i64 t3) ∧ wp.heap.size < W.heap.size ∧ Gr wp W := by
          rintro W rfl
          exact ⟨by simp [go_sem], by simp [go_sem], by simp [go_sem], by simp [go_sem], by simp, (by repeat (first | with_reducible exact Gr.refl _ | with_reducible refine Gr.alloc ?_ _ | with_reducible refine Gr.drew ?_ | with_reducible refine Gr.trans ?_ (by assumption) | with_reducible refine Gr.setCell ?_ (by (try simp); (try omega)) _))⟩
        clear c0 c1 c2 c3 hbl
        generalize hwq : wp.alloc (.cells #[.int .i64 ((ik : Int) + 1), .int .i64 t1, .int .i64 t2', .int .i64 t3] 49) = wq at *
        obtain ⟨e0, e1, e2, e3, hzq, hgq⟩ := v1' wq rfl
        have HLQ := Lib.hid (HL2.out.gr hgq)
        have hszq := HLQ.out.size
        clear v1' hgq hwq
        go_wp2_with (at_builtin; refine wpList_append_own _ rfl _ _ 23 rfl w.heap.size 49 i0 (.agg #[.int .i64 0, .int .i64 0, .int .i64 0, .int .i64 0]) 4 32 Tryd.underlying23 HINF.out.1 HINF.out.2.1 HINF.out.2.2.1 HINF.out.2.2.2 rfl (by decide) _ _ _ rfl (HLQ.out.own.alloc _) ⟨wq.heap.size, 0, none⟩ 1 1 [.int .i64 ((ik : Int) + 1), .int .i64 t1, .int .i64 t2', .int .i64 t3] rfl rfl (cell_four_new _ _ _ _ _ _) (by intro u hu; simp at hu; rcases hu with rfl | rfl | rfl | rfl <;> rfl) (by unfold maxLen; omega) (by omega) (by simp; omega) ?_; intro lv' w5 hown1 hgrow hnil)
        have HL3 : Hid (OwnL w.heap.size 49 4 w lv' (m + (i + 1)) (row4C (jnT t t2 m) (m + (i + 1))) w5) := Lib.hid (by
          have z := (HLQ.out.alloc _).grown hown1 hgrow
          rw [HR4.out, show m + (i + 1) = ik + 1 by rw [HIK.out]; omega]
          exact z)
        clear hown1 hgrow hnil
        go_wp2_with fail
        go_roundw
        case rel => exact ⟨_, i + 1, rfl, by omega, by go_num, HL3.out⟩
        case measure => simp [intOf]; omega
      · obtain rfl : k = i := by omega
        have hlt' : decide ((k : Int) < (k : Int)) = false := decide_eq_false (by omega)
        obtain ⟨A3, c3', hlv, hrows, -⟩ := rows_of_own hL.own (jnT t t2 m) (fun i j hi hj => row4C_at _ _ i j hi hj)
        subst hlv
        have HRW := Lib.hid (And.intro hrows (own_cap1 hL.own))
        clear hL hrows
        go_wp2_with fail

        go_ret
        exact ⟨_, _, rfl, HRW.out.1, HRW.out.2, HGR.out⟩
end Go.Proofs.YtelhmdhhabgihaaDoor
