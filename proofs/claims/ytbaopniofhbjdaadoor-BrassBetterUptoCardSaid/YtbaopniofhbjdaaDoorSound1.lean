/-
  brass.sound: the sound of a blow of a valid horn.
-/
import Derived.Test.YtbaopniofhbjdaaDoorHorn
namespace Go.Proofs.YtbaopniofhbjdaaDoor
open Go.RowKit

/-- What brass's own table of primes reads as. -/
structure BPrimes (w : World) : Prop where
  lt : 1 < w.heap.size
  cell : ∀ k, k < 6 → w.cell? ⟨1, k, none⟩ = some (.int .i64 (V6.get ⟨2, 3, 5, 7, 11, 13⟩ k))
theorem BPrimes.keep {w w' : World} (h : BPrimes w) (g : Gr w w') : BPrimes w' :=
  ⟨Nat.lt_of_lt_of_le h.lt g.size, fun k hk => (Below.cell (p := ⟨1, k, none⟩) g h.lt).trans (h.cell k hk)⟩
theorem ArrRel.alloc {n : Nat} {u : Nat → Int} {S N : Nat} {W1 wr : World} (h : ArrRel n u S N W1 wr) (o : Obj) : ArrRel n u S N W1 (wr.alloc o) := by
  have h1 := h.size
  have h2 := h.lt
  exact ⟨h.but.alloc h.size o, by simp; omega, h.lt, fun j hj => (Below.cell (p := ⟨S, j, none⟩) ((Gr.refl wr).alloc o) (by simp; omega)).trans (h.cell j hj), fun j => (Below.frozen (p := ⟨S, j, none⟩) ((Gr.refl wr).alloc o) (by simp; omega)).trans (h.froz j)⟩

/-- The world in which the loops of sound begin. -/
def soundW (b0 b1 b2 b3 b4 b5 most tol : Int) (A : Option Addr) (n c x s : Nat) (w : World) : World :=
  ((((w.alloc (.cells #[.int .i64 b0, .int .i64 b1, .int .i64 b2, .int .i64 b3, .int .i64 b4, .int .i64 b5, .slice A n c, .int .i64 most, .int .i64 tol] 26)).alloc (.cells #[.int .i64 x, .int .i64 s] 28)).alloc (.cells #[.int .i64 0, .int .i64 0, .int .i64 0, .int .i64 0, .int .i64 0, .int .i64 0] 23)).alloc (.cells #[.int .i64 b0, .int .i64 b1, .int .i64 b2, .int .i64 b3, .int .i64 b4, .int .i64 b5] 23)).drew
structure SoundW (b0 b1 b2 b3 b4 b5 : Int) (A : Option Addr) (n c s : Nat) (w W : World) : Prop where
  gr : Gr w W
  size : W.heap.size = w.heap.size + 4
  horn : W.cell? ⟨w.heap.size, 6, none⟩ = some (.slice A n c)
  blow : W.cell? ⟨w.heap.size + 1, 1, none⟩ = some (.int .i64 (s : Int))
  cell : ∀ j, j < 6 → W.cell? ⟨w.heap.size + 1 + 1 + 1, j, none⟩ = some (.int .i64 (V6.get ⟨b0, b1, b2, b3, b4, b5⟩ j))
  froz : ∀ j, W.frozen? ⟨w.heap.size + 1 + 1 + 1, j, none⟩ = false
  res : ∀ j, j < 6 → W.cell? ⟨w.heap.size + 1 + 1, j, none⟩ = some (.int .i64 0)
  resf : ∀ j, W.frozen? ⟨w.heap.size + 1 + 1, j, none⟩ = false
theorem sound_start (b0 b1 b2 b3 b4 b5 most tol : Int) (A : Option Addr) (n c x s : Nat) (w : World) : SoundW b0 b1 b2 b3 b4 b5 A n c s w (soundW b0 b1 b2 b3 b4 b5 most tol A n c x s w) := by
  refine ⟨((((Gr.refl w).alloc _).alloc _).alloc _).alloc _ |>.drew, by simp [soundW], by simp [soundW, go_sem], by simp [soundW, go_sem], fun j hj => ?_, fun j => by simp [soundW, go_sem], fun j hj => ?_, fun j => by simp [soundW, go_sem]⟩
  all_goals obtain rfl | rfl | rfl | rfl | rfl | rfl : j = 0 ∨ j = 1 ∨ j = 2 ∨ j = 3 ∨ j = 4 ∨ j = 5 := by omega
  all_goals simp [soundW, go_sem, V6.get]
/-- The exponents as far as they have come. -/
def soundTo (base : V6) (f : Nat → Nat → Int) (n x s k : Nat) : Nat → Int := fun j => if j < k then soundF base f n x s j else base.get j
theorem valve_bd {f : Nat → Nat → Int} {n k : Nat} (h : valvesOk f n = true) (hk : k < n) (i : Nat) (hi : i < 6) : -576 ≤ f k i ∧ f k i ≤ 576 := by
  have h1 := allIn_at (valvesOk_at h hk).1 i hi
  obtain rfl | rfl | rfl | rfl | rfl | rfl : i = 0 ∨ i = 1 ∨ i = 2 ∨ i = 3 ∨ i = 4 ∨ i = 5 := by omega
  all_goals exact h1
theorem hornOk_parts {base : V6} {n : Nat} {f : Nat → Nat → Int} {most tol : Int} (h : hornOk base n f most tol = true) :
    allIn base 576 6 = true ∧ n ≤ 4 ∧ 1 ≤ most ∧ most ≤ 16 ∧ 0 ≤ tol ∧ tol ≤ 50000 ∧ valvesOk f n = true := by
  simp only [hornOk, Bool.and_eq_true, decide_eq_true_eq] at h
  exact ⟨h.1.1.1.1.1.1, h.1.1.1.1.1.2, h.1.1.1.1.2, h.1.1.1.2, h.1.1.2, h.1.2, h.2⟩

set_option maxRecDepth 100000 in
set_option maxHeartbeats 8000000 in
theorem sound_any (b0 b1 b2 b3 b4 b5 most tol : Int) (A : Option Addr) (n c x s : Nat) (f : Nat → Nat → Int) (w : World) (hBP : BPrimes w) (hV : RowsAt w 6 A n f) (hok : hornOk ⟨b0, b1, b2, b3, b4, b5⟩ n f most tol = true) (hx0 : 1 ≤ x) (hx : x ≤ 16) :
    Calls Tryd.prog 58 #[.agg #[.int .i64 b0, .int .i64 b1, .int .i64 b2, .int .i64 b3, .int .i64 b4, .int .i64 b5, .slice A n c, .int .i64 most, .int .i64 tol], .agg #[.int .i64 x, .int .i64 s]] w
      fun e w' => e = .returned (.agg #[.int .i64 (soundF ⟨b0, b1, b2, b3, b4, b5⟩ f n x s 0), .int .i64 (soundF ⟨b0, b1, b2, b3, b4, b5⟩ f n x s 1), .int .i64 (soundF ⟨b0, b1, b2, b3, b4, b5⟩ f n x s 2), .int .i64 (soundF ⟨b0, b1, b2, b3, b4, b5⟩ f n x s 3), .int .i64 (soundF ⟨b0, b1, b2, b3, b4, b5⟩ f n x s 4), .int .i64 (soundF ⟨b0, b1, b2, b3, b4, b5⟩ f n x s 5)]) ∧ Gr w w' := by
  obtain ⟨hva, hn4, -, -, -, -, hvo⟩ := hornOk_parts hok
  have HP := Lib.hid hBP; have HV := Lib.hid hV; have HVA := Lib.hid (allIn_at hva); have HVO := Lib.hid (fun k hk => valve_bd (k := k) hvo hk)
  clear hBP hV hok hva hvo
  go_enter Tryd.func58, Tryd.ntmps58
  go_wp2
  go_region
  have hst := sound_start b0 b1 b2 b3 b4 b5 most tol A n c x s w
  obtain ⟨W1, hW1⟩ : ∃ W1, soundW b0 b1 b2 b3 b4 b5 most tol A n c x s w = W1 := ⟨_, rfl⟩
  rw [hW1] at hst
  unfold soundW at hW1
  rw [hW1]
  have HS := Lib.hid hst
  clear hW1 hst
  have HPW := Lib.hid (HP.out.keep HS.out.gr); have HVW := Lib.hid (HV.out.keep HS.out.gr)
  have q0 := HPW.out.cell 0 (by omega); have q1 := HPW.out.cell 1 (by omega); have q2 := HPW.out.cell 2 (by omega); have q3 := HPW.out.cell 3 (by omega); have q4 := HPW.out.cell 4 (by omega); have q5 := HPW.out.cell 5 (by omega)
  simp only [V6.get] at q0 q1 q2 q3 q4 q5
  go_wp2
  clear q0 q1 q2 q3 q4 q5
  have HA0 : Hid (ArrRel 6 (soundTo ⟨b0, b1, b2, b3, b4, b5⟩ f n x s 0) (w.heap.size + 1 + 1 + 1) (w.heap.size + 4) W1 W1) := Lib.hid ⟨But.refl _ _ _, by rw [HS.out.size]; omega, by omega, fun j hj => by rw [soundTo, if_neg (by omega)]; exact HS.out.cell j hj, HS.out.froz⟩
  go_loopw [16, 6] (fun i v wr => ∃ k : Nat, k ≤ 6 ∧ i = .int .i64 k ∧ v = .int .i64 (remI x k : Int) ∧ ArrRel 6 (soundTo ⟨b0, b1, b2, b3, b4, b5⟩ f n x s k) (w.heap.size + 1 + 1 + 1) (w.heap.size + 4) W1 wr) (fun i _ _ => 6 - (intOf i).toNat)
  case atStart => exact ⟨0, by omega, rfl, rfl, HA0.out⟩
  case round =>
    obtain ⟨k, hk, rfl, rfl, hR⟩ := hrel
    have HR := Lib.hid hR
    clear HA0 hR
    by_cases hlt : k < 6
    · have hy := run_index6 2 3 5 7 11 13 k hlt
      rw [pN_get k hlt] at hy
      obtain ⟨hq1, hq2⟩ := pN_two k
      obtain ⟨hm1, hm2⟩ := remI_bd (by omega : 0 < x) k
      have HRM := Lib.hid (show remI x (k + 1) = rm (pN k) 5 (remI x k) from rfl)
      have HPV := Lib.hid (show pvI x k = vp (pN k) 5 (remI x k) from rfl)
      generalize pN k = q at *
      generalize remI x k = m0 at *
      obtain ⟨wo, rfl⟩ : ∃ wo : World, wo = wr := ⟨_, rfl⟩
      have HB := Lib.hid (HVA.out k hlt)
      have HA1 : Hid (ArrRel 6 (fun j => if j = k then V6.get ⟨b0, b1, b2, b3, b4, b5⟩ k + 12 * ((0 : Nat) : Int) else soundTo ⟨b0, b1, b2, b3, b4, b5⟩ f n x s k j) (w.heap.size + 1 + 1 + 1) (w.heap.size + 4) W1 wo) := Lib.hid (HR.out.congr fun j hj => by
        split
        · subst j; rw [soundTo, if_neg (by omega)]; omega
        · rfl)
      have HD := Lib.hid (Div5.start (q := q) hm1 (by omega))
      rw [← HPV.out, ← HRM.out] at HD
      go_wp2
      clear hy
      go_loopw [6] (fun v wr => ∃ m g t : Nat, v = .int .i64 (m : Int) ∧ m ≤ 16 ∧ t ≤ 5 ∧ Div5 q m g t (pvI x k) (remI x (k + 1)) ∧ ArrRel 6 (fun j => if j = k then V6.get ⟨b0, b1, b2, b3, b4, b5⟩ k + 12 * (t : Int) else soundTo ⟨b0, b1, b2, b3, b4, b5⟩ f n x s k j) (w.heap.size + 1 + 1 + 1) (w.heap.size + 4) W1 wr) (fun v _ => (intOf v).toNat)
      case atStart => exact ⟨m0, 5, 0, rfl, by omega, by omega, HD.out, HA1.out⟩
      case round =>
        obtain ⟨m, g, t, rfl, hm16, ht5, hD, hA⟩ := hrel
        have HDD := Lib.hid hD; have HAA := Lib.hid hA
        clear hD hA HA1 HD
        by_cases hmod : m % q = 0
        · obtain ⟨g', hd', hlt'⟩ := HDD.out.step hq1 hmod
          have hmm : ((m : Int) % (q : Int) == 0) = true := by
            rw [beq_iff_eq]; omega
          have hyc := HAA.out.cell k hlt
          have fyc := HAA.out.froz k
          have hsz := HAA.out.size
          simp only [if_true] at hyc
          have HST := Lib.hid (HAA.out.store hlt (V6.get ⟨b0, b1, b2, b3, b4, b5⟩ k + 12 * ((t + 1 : Nat) : Int)))
          have hcast : V6.get ⟨b0, b1, b2, b3, b4, b5⟩ k + 12 * ((t + 1 : Nat) : Int) = V6.get ⟨b0, b1, b2, b3, b4, b5⟩ k + 12 * (t : Int) + 12 := by omega
          rw [hcast] at HST
          have HDN := Lib.hid hd'; have HLT := Lib.hid hlt'
          have hbb := HB.out
          generalize V6.get ⟨b0, b1, b2, b3, b4, b5⟩ k = y0 at *
          have hd1 : 0 ≤ (m : Int) / (q : Int) := Int.ediv_nonneg (by omega) (by omega)
          have hd2 : (m : Int) / (q : Int) ≤ 16 := by rw [← Int.natCast_ediv]; have := HLT.out; omega
          clear hmod
          go_wp2
          go_roundw
          case rel => exact ⟨m / q, g', t + 1, by rw [Int.natCast_ediv], by have := HLT.out; omega, by have := HDN.out.2.2.1; omega, HDN.out, (HST.out.congr fun j hj => by
            split
            · omega
            · rfl)⟩
          case measure => simp only [intOf]; rw [← Int.natCast_ediv]; have := HLT.out; omega
        · have hmm : ((m : Int) % (q : Int) == 0) = false := by
            rw [beq_eq_false_iff_ne]; omega
          obtain ⟨he, hr⟩ := HDD.out.stop hmod
          have HE := Lib.hid he; have HRR := Lib.hid hr
          have hsz := HAA.out.size
          have hhorn := (HAA.out.but.cell (p := ⟨w.heap.size, 6, none⟩) (show w.heap.size < w.heap.size + 4 by omega) (show w.heap.size ≠ w.heap.size + 1 + 1 + 1 by omega)).trans HS.out.horn
          clear he hr hmod
          obtain ⟨wi, rfl⟩ : ∃ wi : World, wi = wr := ⟨_, rfl⟩
          go_wp2
          clear hhorn hmm hsz
          have HA2 : Hid (ArrRel 6 (fun j => if j = k then V6.get ⟨b0, b1, b2, b3, b4, b5⟩ k + 12 * (t : Int) - vsum f s k 0 else soundTo ⟨b0, b1, b2, b3, b4, b5⟩ f n x s k j) (w.heap.size + 1 + 1 + 1) (w.heap.size + 4) W1 wi) := Lib.hid (HAA.out.congr fun j hj => by
            split
            · show _ = _ - 0; omega
            · rfl)
          go_loopw [35] (fun v wr => ∃ kk : Nat, kk ≤ n ∧ v = .int .i64 (kk : Int) ∧ ArrRel 6 (fun j => if j = k then V6.get ⟨b0, b1, b2, b3, b4, b5⟩ k + 12 * (t : Int) - vsum f s k kk else soundTo ⟨b0, b1, b2, b3, b4, b5⟩ f n x s k j) (w.heap.size + 1 + 1 + 1) (w.heap.size + 4) W1 wr) (fun v _ => n - (intOf v).toNat)
          case atStart => exact ⟨0, Nat.zero_le _, rfl, HA2.out⟩
          case round =>
            obtain ⟨kk, hkk, rfl, hA⟩ := hrel
            have HA3 := Lib.hid hA
            clear hA HA2 HAA
            by_cases hlk : kk < n
            · have hgr : Gr w wr := HS.out.gr.but HA3.out.but (by omega) (by omega)
              obtain ⟨b, off, rfl, hbl, c0, c1, c2, c3, c4, c5⟩ := (HV.out.keep hgr).six hlk
              have hsz := HA3.out.size
              have hblow := (HA3.out.but.cell (p := ⟨w.heap.size + 1, 1, none⟩) (show w.heap.size + 1 < w.heap.size + 4 by omega) (show w.heap.size + 1 ≠ w.heap.size + 1 + 1 + 1 by omega)).trans HS.out.blow
              have hyc := HA3.out.cell k hlt
              have fyc := HA3.out.froz k
              simp only [if_true] at hyc
              have hvb := HVO.out kk hlk k hlt
              have hbb := HB.out
              have hvs := vsum_bd (vs := f) (s := s) (i := k) (B := 576) (k := kk) (fun j hj => HVO.out j (by omega) k hlt) (by omega)
              clear hgr
              cases hon : bitOn s kk with
              | false =>
                have hbit := bit_of s kk 0 (by simp only [bitOn, beq_eq_false_iff_ne] at hon; omega)
                have HNX := Lib.hid ((HA3.out.alloc (.cells #[.int .i64 (f kk 0), .int .i64 (f kk 1), .int .i64 (f kk 2), .int .i64 (f kk 3), .int .i64 (f kk 4), .int .i64 (f kk 5)] 23)).congr (u' := fun j => if j = k then V6.get ⟨b0, b1, b2, b3, b4, b5⟩ k + 12 * (t : Int) - vsum f s k (kk + 1) else soundTo ⟨b0, b1, b2, b3, b4, b5⟩ f n x s k j) fun j hj => by rw [vsum_no hon])
                clear hon
                go_wp2
                go_roundw
                case rel => exact ⟨kk + 1, by omega, by go_num, HNX.out⟩
                case measure => simp [intOf]; omega
              | true =>
                have hbit := bit_of s kk 1 (by simpa [bitOn] using hon)
                have hvl : (wr.alloc (.cells #[.int .i64 (f kk 0), .int .i64 (f kk 1), .int .i64 (f kk 2), .int .i64 (f kk 3), .int .i64 (f kk 4), .int .i64 (f kk 5)] 23)).cell? ⟨wr.heap.size, k, none⟩ = some (.int .i64 (f kk k)) := by
                  obtain rfl | rfl | rfl | rfl | rfl | rfl : k = 0 ∨ k = 1 ∨ k = 2 ∨ k = 3 ∨ k = 4 ∨ k = 5 := by omega
                  all_goals simp [go_sem]
                have hyl := ((HA3.out.alloc (.cells #[.int .i64 (f kk 0), .int .i64 (f kk 1), .int .i64 (f kk 2), .int .i64 (f kk 3), .int .i64 (f kk 4), .int .i64 (f kk 5)] 23)).cell k hlt)
                have fyl := ((HA3.out.alloc (.cells #[.int .i64 (f kk 0), .int .i64 (f kk 1), .int .i64 (f kk 2), .int .i64 (f kk 3), .int .i64 (f kk 4), .int .i64 (f kk 5)] 23)).froz k)
                simp only [if_true] at hyl
                have HNX := Lib.hid (((HA3.out.alloc (.cells #[.int .i64 (f kk 0), .int .i64 (f kk 1), .int .i64 (f kk 2), .int .i64 (f kk 3), .int .i64 (f kk 4), .int .i64 (f kk 5)] 23)).store hlt (V6.get ⟨b0, b1, b2, b3, b4, b5⟩ k + 12 * (t : Int) - vsum f s k kk - f kk k)).congr (u' := fun j => if j = k then V6.get ⟨b0, b1, b2, b3, b4, b5⟩ k + 12 * (t : Int) - vsum f s k (kk + 1) else soundTo ⟨b0, b1, b2, b3, b4, b5⟩ f n x s k j) fun j hj => by
                  rw [vsum_yes hon]
                  by_cases hjk : j = k
                  · rw [if_pos hjk, if_pos hjk]; omega
                  · rw [if_neg hjk, if_neg hjk, if_neg hjk])
                clear hon hyc fyc
                generalize vsum f s k kk = vv at *
                generalize V6.get ⟨b0, b1, b2, b3, b4, b5⟩ k = y0 at *
                go_wp2
                go_region
                go_wp2
                go_roundw
                case rel => exact ⟨kk + 1, by omega, by go_num, HNX.out.drew⟩
                case measure => simp [intOf]; omega
            · obtain rfl : kk = n := by omega
              have HA4 := Lib.hid (HA3.out.congr (u' := soundTo ⟨b0, b1, b2, b3, b4, b5⟩ f kk x s (k + 1)) fun j hj => by
                unfold soundTo
                by_cases hjk : j = k
                · subst j
                  rw [if_pos rfl, if_pos (by omega), soundF, HE.out]
                · rw [if_neg hjk]
                  by_cases hjl : j < k
                  · rw [if_pos hjl, if_pos (by omega)]
                  · rw [if_neg hjl, if_neg (by omega)])
              obtain ⟨wj, rfl⟩ : ∃ wj : World, wj = wr := ⟨_, rfl⟩
              go_wp2
              go_roundw
              case rel => exact ⟨k + 1, by omega, by go_num, by rw [HRR.out], HA4.out⟩
              case measure => simp [intOf]; omega
    · obtain rfl : k = 6 := by omega
      have c0 := HR.out.cell 0 (by omega); have c1 := HR.out.cell 1 (by omega); have c2 := HR.out.cell 2 (by omega); have c3 := HR.out.cell 3 (by omega); have c4 := HR.out.cell 4 (by omega); have c5 := HR.out.cell 5 (by omega)
      simp only [soundTo, Nat.reduceLT, if_true] at c0 c1 c2 c3 c4 c5
      have hsz := HR.out.size
      have hgr : Gr w wr := HS.out.gr.but HR.out.but (by omega) (by omega)
      have r : ∀ j, j < 6 → wr.cell? ⟨w.heap.size + 1 + 1, j, none⟩ = some (.int .i64 0) := fun j hj => by
        rw [HR.out.but.cell (p := ⟨w.heap.size + 1 + 1, j, none⟩) (show w.heap.size + 1 + 1 < w.heap.size + 4 by omega) (show w.heap.size + 1 + 1 ≠ w.heap.size + 1 + 1 + 1 by omega)]
        exact HS.out.res j hj
      have rf : ∀ j, wr.frozen? ⟨w.heap.size + 1 + 1, j, none⟩ = false := fun j =>
        (HR.out.but.frozen (p := ⟨w.heap.size + 1 + 1, j, none⟩) (show w.heap.size + 1 + 1 < w.heap.size + 4 by omega) (show w.heap.size + 1 + 1 ≠ w.heap.size + 1 + 1 + 1 by omega)).trans (HS.out.resf j)
      have r0 := r 0 (by omega); have r1 := r 1 (by omega); have r2 := r 2 (by omega); have r3 := r 3 (by omega); have r4 := r 4 (by omega); have r5 := r 5 (by omega)
      have RR := Lib.hid (fun j hj => by rw [r j hj]; rfl : ∀ j, j < 6 → (wr.cell? ⟨w.heap.size + 1 + 1, j, none⟩).isSome = true)
      clear r
      go_wp2
      refine bodyPost_six RR.out ?_
      intro W' hW' s0 s1 s2 s3 s4 s5
      exact bodyPost_ret (v := .agg #[.int .i64 (soundF ⟨b0, b1, b2, b3, b4, b5⟩ f n x s 0), .int .i64 (soundF ⟨b0, b1, b2, b3, b4, b5⟩ f n x s 1), .int .i64 (soundF ⟨b0, b1, b2, b3, b4, b5⟩ f n x s 2), .int .i64 (soundF ⟨b0, b1, b2, b3, b4, b5⟩ f n x s 3), .int .i64 (soundF ⟨b0, b1, b2, b3, b4, b5⟩ f n x s 4), .int .i64 (soundF ⟨b0, b1, b2, b3, b4, b5⟩ f n x s 5)]) (by simp [results, Tryd.results58, go_sem, s0, s1, s2, s3, s4, s5]) rfl ⟨rfl, hW' _ hgr (by omega)⟩
end Go.Proofs.YtbaopniofhbjdaaDoor
