/-
  pitch.Ratio at small numbers.
-/
import Derived.Test.YtbaopniofhbjdaaDoorBHead
import Derived.Test.YtbaopniofhbjdaaDoorHeld
namespace Go.Proofs.YtbaopniofhbjdaaDoor
open Go.RowKit

/-- The exponents of a ratio, as far as they are known. -/
def ratioTo (x y k j : Nat) : Int := if j < k then (pvI x j : Int) - (pvI y j : Int) else 0
theorem remI_one : ∀ n, n < 17 → 1 ≤ n → remI n 6 = 1 := by decide +kernel
theorem pvI_le (n i : Nat) : pvI n i ≤ 5 := vp_le _ _ _

set_option maxRecDepth 100000 in
set_option maxHeartbeats 16000000 in
theorem ratio_small (x y : Nat) (w : World) (hP : Primes w) (hx0 : 1 ≤ x) (hx : x ≤ 16) (hy0 : 1 ≤ y) (hy : y ≤ 16) :
    Calls Tryd.prog 31 #[.int .i64 (x : Int), .int .i64 (y : Int)] w
      fun e w' => e = .returned (.tuple #[.agg #[.int .i64 ((pvI x 0 : Int) - pvI y 0), .int .i64 ((pvI x 1 : Int) - pvI y 1), .int .i64 ((pvI x 2 : Int) - pvI y 2), .int .i64 ((pvI x 3 : Int) - pvI y 3), .int .i64 ((pvI x 4 : Int) - pvI y 4), .int .i64 ((pvI x 5 : Int) - pvI y 5)], .int .i64 0]) ∧ Gr w w' := by
  have hPK := hP.keep (((Gr.refl w).alloc (.cells #[.int .i64 0, .int .i64 0, .int .i64 0, .int .i64 0, .int .i64 0, .int .i64 0] 29)).alloc (.cells #[.int .i64 0, .int .i64 0, .int .i64 0, .int .i64 0, .int .i64 0, .int .i64 0] 29))
  have q0 := hPK.cell 0 (by omega); have q1 := hPK.cell 1 (by omega); have q2 := hPK.cell 2 (by omega); have q3 := hPK.cell 3 (by omega); have q4 := hPK.cell 4 (by omega); have q5 := hPK.cell 5 (by omega)
  simp only [primeI] at q0 q1 q2 q3 q4 q5
  have hpl := hP.lt
  clear hP hPK
  go_enter Tryd.func31, Tryd.ntmps31
  go_wp2_with fail
  clear q0 q1 q2 q3 q4 q5 hpl
  have hA0 : ArrRel 6 (ratioTo x y 0) (w.heap.size + 1) (w.heap.size + 2) ((w.alloc (.cells #[.int .i64 0, .int .i64 0, .int .i64 0, .int .i64 0, .int .i64 0, .int .i64 0] 29)).alloc (.cells #[.int .i64 0, .int .i64 0, .int .i64 0, .int .i64 0, .int .i64 0, .int .i64 0] 29)) ((w.alloc (.cells #[.int .i64 0, .int .i64 0, .int .i64 0, .int .i64 0, .int .i64 0, .int .i64 0] 29)).alloc (.cells #[.int .i64 0, .int .i64 0, .int .i64 0, .int .i64 0, .int .i64 0, .int .i64 0] 29)) := by
    refine ⟨But.refl _ _ _, by simp, by omega, fun j hj => ?_, fun j => by simp [go_sem]⟩
    rw [ratioTo, if_neg (by omega)]
    rcases (show j = 0 ∨ j = 1 ∨ j = 2 ∨ j = 3 ∨ j = 4 ∨ j = 5 by omega) with rfl | rfl | rfl | rfl | rfl | rfl <;> simp [go_sem]
  have hr0 : ∀ j, j < 6 → ((w.alloc (.cells #[.int .i64 0, .int .i64 0, .int .i64 0, .int .i64 0, .int .i64 0, .int .i64 0] 29)).alloc (.cells #[.int .i64 0, .int .i64 0, .int .i64 0, .int .i64 0, .int .i64 0, .int .i64 0] 29)).cell? ⟨w.heap.size, j, none⟩ = some (.int .i64 0) := by
    intro j hj
    rcases (show j = 0 ∨ j = 1 ∨ j = 2 ∨ j = 3 ∨ j = 4 ∨ j = 5 by omega) with rfl | rfl | rfl | rfl | rfl | rfl <;> simp [go_sem]
  have hrf : ∀ j, ((w.alloc (.cells #[.int .i64 0, .int .i64 0, .int .i64 0, .int .i64 0, .int .i64 0, .int .i64 0] 29)).alloc (.cells #[.int .i64 0, .int .i64 0, .int .i64 0, .int .i64 0, .int .i64 0, .int .i64 0] 29)).frozen? ⟨w.heap.size, j, none⟩ = false := by intro j; simp [go_sem]
  have hg0 : Gr w ((w.alloc (.cells #[.int .i64 0, .int .i64 0, .int .i64 0, .int .i64 0, .int .i64 0, .int .i64 0] 29)).alloc (.cells #[.int .i64 0, .int .i64 0, .int .i64 0, .int .i64 0, .int .i64 0, .int .i64 0] 29)) := ((Gr.refl w).alloc _).alloc _
  have HA0 := Lib.hid hA0; have HR0 := Lib.hid hr0; have HRF := Lib.hid hrf; have HG0 := Lib.hid hg0
  clear hA0 hr0 hrf hg0
  generalize (w.alloc (.cells #[.int .i64 0, .int .i64 0, .int .i64 0, .int .i64 0, .int .i64 0, .int .i64 0] 29)).alloc (.cells #[.int .i64 0, .int .i64 0, .int .i64 0, .int .i64 0, .int .i64 0, .int .i64 0] 29) = W1 at *
  go_loopw [25, 0, 1] (fun i a b wr => ∃ k : Nat, k ≤ 6 ∧ i = .int .i64 k ∧ a = .int .i64 (remI x k : Int) ∧ b = .int .i64 (remI y k : Int) ∧ ArrRel 6 (ratioTo x y k) (w.heap.size + 1) (w.heap.size + 2) W1 wr) (fun i _ _ _ => 6 - (intOf i).toNat)
  case atStart => exact ⟨0, by omega, rfl, rfl, rfl, HA0.out⟩
  case round =>
    obtain ⟨k, hk, rfl, rfl, rfl, hR⟩ := hrel
    have HR := Lib.hid hR
    clear HA0 hR
    by_cases hlt : k < 6
    · have hix := run_index6 2 3 5 7 11 13 k hlt
      rw [pN_get k hlt] at hix
      obtain ⟨hq1, hq2⟩ := pN_two k
      obtain ⟨hm1, hm2⟩ := remI_bd (by omega : 0 < x) k
      obtain ⟨hm3, hm4⟩ := remI_bd (by omega : 0 < y) k
      have HD := Lib.hid (Div5.start (q := pN k) hm1 (by omega))
      have HD' := Lib.hid (Div5.start (q := pN k) hm3 (by omega))
      rw [show vp (pN k) 5 (remI x k) = pvI x k from rfl, show rm (pN k) 5 (remI x k) = remI x (k + 1) from rfl] at HD
      rw [show vp (pN k) 5 (remI y k) = pvI y k from rfl, show rm (pN k) 5 (remI y k) = remI y (k + 1) from rfl] at HD'
      have HB1 := Lib.hid (pvI_le x k); have HB2 := Lib.hid (pvI_le y k)
      generalize pN k = q at *
      generalize remI x k = m0 at *
      generalize remI y k = m1 at *
      obtain ⟨wo, rfl⟩ : ∃ wo : World, wo = wr := ⟨_, rfl⟩
      have HA1 : Hid (ArrRel 6 (fun j => if j = k then ((0 : Nat) : Int) else ratioTo x y k j) (w.heap.size + 1) (w.heap.size + 2) W1 wo) := Lib.hid (HR.out.congr fun j hj => by
        split
        · subst j; rw [ratioTo, if_neg (by omega)]; rfl
        · rfl)
      go_wp2_with fail
      clear hix
      go_loopw [0] (fun v wr => ∃ m g t : Nat, v = .int .i64 (m : Int) ∧ m ≤ 16 ∧ t ≤ 5 ∧ Div5 q m g t (pvI x k) (remI x (k + 1)) ∧ ArrRel 6 (fun j => if j = k then (t : Int) else ratioTo x y k j) (w.heap.size + 1) (w.heap.size + 2) W1 wr) (fun v _ => (intOf v).toNat)
      case atStart => exact ⟨m0, 5, 0, rfl, by omega, by omega, HD.out, HA1.out⟩
      case round =>
        obtain ⟨m, g, t, rfl, hm16, ht5, hD, hA⟩ := hrel
        have HDD := Lib.hid hD; have HAA := Lib.hid hA
        clear hD hA HA1 HD
        by_cases hmod : m % q = 0
        · obtain ⟨g', hd', hlt'⟩ := HDD.out.step hq1 hmod
          have hmm : ((m : Int) % (q : Int) == 0) = true := by
            rw [beq_iff_eq]; omega
          have hyc := HAA.out.cell k hlt
          have fyc := HAA.out.froz k
          have hsz := HAA.out.size
          simp only [if_true] at hyc
          have HST := Lib.hid (HAA.out.store hlt ((t : Int) + 1))
          have HDN := Lib.hid hd'; have HLT := Lib.hid hlt'
          have hd1 : 0 ≤ (m : Int) / (q : Int) := Int.ediv_nonneg (by omega) (by omega)
          have hd2 : (m : Int) / (q : Int) ≤ 16 := by rw [← Int.natCast_ediv]; have := HLT.out; omega
          clear hmod
          obtain ⟨wi, rfl⟩ : ∃ wi : World, wi = wr := ⟨_, rfl⟩
          go_wp2_with fail
          go_roundw
          case rel => exact ⟨m / q, g', t + 1, by rw [Int.natCast_ediv], by have := HLT.out; omega, by have := HDN.out.2.2.1; omega, HDN.out, (HST.out.congr fun j hj => by
            split
            · omega
            · rfl)⟩
          case measure => simp only [intOf]; rw [← Int.natCast_ediv]; have := HLT.out; omega
        · have hmm : ((m : Int) % (q : Int) == 0) = false := by
            rw [beq_eq_false_iff_ne]; omega
          obtain ⟨he, hr⟩ := HDD.out.stop hmod
          have HE := Lib.hid he; have HRR := Lib.hid hr
          have hsz := HAA.out.size
          clear he hr hmod
          obtain ⟨wi, rfl⟩ : ∃ wi : World, wi = wr := ⟨_, rfl⟩
          go_wp2_with fail
          clear hmm hsz
          have HA2 : Hid (ArrRel 6 (fun j => if j = k then (t : Int) - ((0 : Nat) : Int) else ratioTo x y k j) (w.heap.size + 1) (w.heap.size + 2) W1 wi) := Lib.hid (HAA.out.congr fun j hj => by
            split
            · omega
            · rfl)
          go_loopw [1] (fun v wr => ∃ m g u : Nat, v = .int .i64 (m : Int) ∧ m ≤ 16 ∧ u ≤ 5 ∧ Div5 q m g u (pvI y k) (remI y (k + 1)) ∧ ArrRel 6 (fun j => if j = k then (t : Int) - (u : Int) else ratioTo x y k j) (w.heap.size + 1) (w.heap.size + 2) W1 wr) (fun v _ => (intOf v).toNat)
          case atStart => exact ⟨m1, 5, 0, rfl, by omega, by omega, HD'.out, HA2.out⟩
          case round =>
            obtain ⟨p, g2, u, rfl, hp16, hu5, hD, hA⟩ := hrel
            have HDD2 := Lib.hid hD; have HAA2 := Lib.hid hA
            clear hD hA HA2 HD' HAA
            by_cases hmod : p % q = 0
            · obtain ⟨g', hd', hlt'⟩ := HDD2.out.step hq1 hmod
              have hmm : ((p : Int) % (q : Int) == 0) = true := by
                rw [beq_iff_eq]; omega
              have hyc := HAA2.out.cell k hlt
              have fyc := HAA2.out.froz k
              have hsz := HAA2.out.size
              simp only [if_true] at hyc
              have HST := Lib.hid (HAA2.out.store hlt ((t : Int) - (u : Int) - 1))
              have HDN := Lib.hid hd'; have HLT := Lib.hid hlt'
              have hd1 : 0 ≤ (p : Int) / (q : Int) := Int.ediv_nonneg (by omega) (by omega)
              have hd2 : (p : Int) / (q : Int) ≤ 16 := by rw [← Int.natCast_ediv]; have := HLT.out; omega
              clear hmod
              obtain ⟨wj, rfl⟩ : ∃ wj : World, wj = wr := ⟨_, rfl⟩
              go_wp2_with fail
              go_roundw
              case rel => exact ⟨p / q, g', u + 1, by rw [Int.natCast_ediv], by have := HLT.out; omega, by have := HDN.out.2.2.1; omega, HDN.out, (HST.out.congr fun j hj => by
                split
                · omega
                · rfl)⟩
              case measure => simp only [intOf]; rw [← Int.natCast_ediv]; have := HLT.out; omega
            · have hmm : ((p : Int) % (q : Int) == 0) = false := by
                rw [beq_eq_false_iff_ne]; omega
              obtain ⟨he, hr⟩ := HDD2.out.stop hmod
              have HE2 := Lib.hid he; have HRR2 := Lib.hid hr
              have hsz := HAA2.out.size
              have HA4 := Lib.hid (HAA2.out.congr (u' := ratioTo x y (k + 1)) fun j hj => by
                unfold ratioTo
                by_cases hjk : j = k
                · subst j
                  rw [if_pos rfl, if_pos (by omega), HE.out, HE2.out]
                · rw [if_neg hjk]
                  by_cases hjl : j < k
                  · rw [if_pos hjl, if_pos (by omega)]
                  · rw [if_neg hjl, if_neg (by omega)])
              clear he hr hmod
              obtain ⟨wj, rfl⟩ : ∃ wj : World, wj = wr := ⟨_, rfl⟩
              go_wp2_with fail
              go_roundw
              case rel => exact ⟨k + 1, by omega, by go_num, by rw [HRR.out], by rw [HRR2.out], HA4.out⟩
              case measure => simp [intOf]; omega
    · obtain rfl : k = 6 := by omega
      have c0 := HR.out.cell 0 (by omega); have c1 := HR.out.cell 1 (by omega); have c2 := HR.out.cell 2 (by omega); have c3 := HR.out.cell 3 (by omega); have c4 := HR.out.cell 4 (by omega); have c5 := HR.out.cell 5 (by omega)
      simp only [ratioTo, Nat.reduceLT, if_true] at c0 c1 c2 c3 c4 c5
      have hsz := HR.out.size
      have hgr : Gr w wr := HG0.out.but HR.out.but (by omega) (by omega)
      have r : ∀ j, j < 6 → wr.cell? ⟨w.heap.size, j, none⟩ = some (.int .i64 0) := fun j hj =>
        (HR.out.but.cell (p := ⟨w.heap.size, j, none⟩) (show w.heap.size < w.heap.size + 2 by omega) (show w.heap.size ≠ w.heap.size + 1 by omega)).trans (HR0.out j hj)
      have rf : ∀ j, wr.frozen? ⟨w.heap.size, j, none⟩ = false := fun j =>
        (HR.out.but.frozen (p := ⟨w.heap.size, j, none⟩) (show w.heap.size < w.heap.size + 2 by omega) (show w.heap.size ≠ w.heap.size + 1 by omega)).trans (HRF.out j)
      have r0 := r 0 (by omega); have r1 := r 1 (by omega); have r2 := r 2 (by omega); have r3 := r 3 (by omega); have r4 := r 4 (by omega); have r5 := r 5 (by omega)
      have RR := Lib.hid (fun j hj => by rw [r j hj]; rfl : ∀ j, j < 6 → (wr.cell? ⟨w.heap.size, j, none⟩).isSome = true)
      clear r
      rw [remI_one x (by omega) hx0, remI_one y (by omega) hy0]
      obtain ⟨wo, rfl⟩ : ∃ wo : World, wo = wr := ⟨_, rfl⟩
      go_wp2_with fail
      refine bodyPost_six RR.out ?_
      intro W' hW' s0 s1 s2 s3 s4 s5
      exact bodyPost_ret (v := .tuple #[.agg #[.int .i64 ((pvI x 0 : Int) - pvI y 0), .int .i64 ((pvI x 1 : Int) - pvI y 1), .int .i64 ((pvI x 2 : Int) - pvI y 2), .int .i64 ((pvI x 3 : Int) - pvI y 3), .int .i64 ((pvI x 4 : Int) - pvI y 4), .int .i64 ((pvI x 5 : Int) - pvI y 5)], .int .i64 0]) (by simp [results, Tryd.results31, go_sem, s0, s1, s2, s3, s4, s5]) rfl ⟨rfl, hW' _ hgr (by omega)⟩
end Go.Proofs.YtbaopniofhbjdaaDoor
