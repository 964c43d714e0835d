import Derived.Test.YtelhmdhhabgihaaGreatDoorSizeC
namespace Go.Proofs.YtelhmdhhabgihaaGreatDoor
open Go.RowKit

/-- The logarithms of the primes, in grains: lower and upper numbers. -/
def logLo : Nat → Int
  | 0 => 1000000000
  | 1 => 1584962500
  | 2 => 2321928094
  | 3 => 2807354922
  | 4 => 3459431618
  | 5 => 3700439718
  | _ => 0
def logHi : Nat → Int
  | 0 => 1000000000
  | 1 => 1584962501
  | 2 => 2321928095
  | 3 => 2807354923
  | 4 => 3459431619
  | 5 => 3700439719
  | _ => 0

/-- What the table of logarithms reads as. -/
structure Logs (w : World) : Prop where
  pos : 0 < w.heap.size
  c0 : w.cell? ⟨0, 0, none⟩ = some (.int .i64 1000000000)
  c1 : w.cell? ⟨0, 1, none⟩ = some (.int .i64 1000000000)
  c2 : w.cell? ⟨0, 2, none⟩ = some (.int .i64 1584962500)
  c3 : w.cell? ⟨0, 3, none⟩ = some (.int .i64 1584962501)
  c4 : w.cell? ⟨0, 4, none⟩ = some (.int .i64 2321928094)
  c5 : w.cell? ⟨0, 5, none⟩ = some (.int .i64 2321928095)
  c6 : w.cell? ⟨0, 6, none⟩ = some (.int .i64 2807354922)
  c7 : w.cell? ⟨0, 7, none⟩ = some (.int .i64 2807354923)
  c8 : w.cell? ⟨0, 8, none⟩ = some (.int .i64 3459431618)
  c9 : w.cell? ⟨0, 9, none⟩ = some (.int .i64 3459431619)
  c10 : w.cell? ⟨0, 10, none⟩ = some (.int .i64 3700439718)
  c11 : w.cell? ⟨0, 11, none⟩ = some (.int .i64 3700439719)
theorem Logs.keep {w w' : World} (h : Logs w) (g : Gr w w') : Logs w' := by
  have hp := h.pos
  have hc : ∀ b o, b < w.heap.size → w'.cell? ⟨b, o, none⟩ = w.cell? ⟨b, o, none⟩ := fun b o hb => Below.cell (p := ⟨b, o, none⟩) g hb
  exact ⟨Nat.lt_of_lt_of_le hp g.le, (hc _ _ hp).trans h.c0, (hc _ _ hp).trans h.c1, (hc _ _ hp).trans h.c2, (hc _ _ hp).trans h.c3, (hc _ _ hp).trans h.c4, (hc _ _ hp).trans h.c5, (hc _ _ hp).trans h.c6, (hc _ _ hp).trans h.c7, (hc _ _ hp).trans h.c8, (hc _ _ hp).trans h.c9, (hc _ _ hp).trans h.c10, (hc _ _ hp).trans h.c11⟩

/-- The lower, and the upper, sum over the first n exponents. -/
def sumLo (v : V6) : Nat → Int
  | 0 => 0
  | n + 1 => sumLo v n + v.get n * (if v.get n < 0 then logHi n else logLo n)
def sumHi (v : V6) : Nat → Int
  | 0 => 0
  | n + 1 => sumHi v n + v.get n * (if v.get n < 0 then logLo n else logHi n)

theorem allIn_get {v : V6} {b : Int} (h : allIn v b 6 = true) (k : Nat) (hk : k < 6) : -b ≤ v.get k ∧ v.get k ≤ b := by
  simp only [allIn, Bool.and_eq_true, decide_eq_true_eq] at h
  obtain rfl | rfl | rfl | rfl | rfl | rfl : k = 0 ∨ k = 1 ∨ k = 2 ∨ k = 3 ∨ k = 4 ∨ k = 5 := by omega
  all_goals omega
theorem log_bd (k : Nat) (hk : k < 6) : 1000000000 ≤ logLo k ∧ logLo k ≤ logHi k ∧ logHi k ≤ 4000000000 := by
  obtain rfl | rfl | rfl | rfl | rfl | rfl : k = 0 ∨ k = 1 ∨ k = 2 ∨ k = 3 ∨ k = 4 ∨ k = 5 := by omega
  all_goals simp [logLo, logHi]
theorem mul_bd {x y : Int} (h1 : -1152 ≤ x) (h2 : x ≤ 1152) (h3 : 0 ≤ y) (h4 : y ≤ 4000000000) : -4608000000000 ≤ x * y ∧ x * y ≤ 4608000000000 := by
  have a := Int.mul_le_mul_of_nonneg_right h2 h3
  have b := Int.mul_le_mul_of_nonneg_right h1 h3
  omega
theorem sum_bd {v : V6} (h : allIn v 1152 6 = true) (k : Nat) (hk : k ≤ 6) :
    (-4608000000000 * (k : Int) ≤ sumLo v k ∧ sumLo v k ≤ 4608000000000 * (k : Int)) ∧ (-4608000000000 * (k : Int) ≤ sumHi v k ∧ sumHi v k ≤ 4608000000000 * (k : Int)) := by
  induction k with
  | zero => simp [sumLo, sumHi]
  | succ n ih =>
    obtain ⟨i1, i2⟩ := ih (by omega)
    obtain ⟨x1, x2⟩ := allIn_get h n (by omega)
    obtain ⟨y1, y2, y3⟩ := log_bd n (by omega)
    have m1 := mul_bd x1 x2 (show 0 ≤ logLo n by omega) (by omega)
    have m2 := mul_bd x1 x2 (show 0 ≤ logHi n by omega) (by omega)
    simp only [sumLo, sumHi]
    split <;> constructor <;> omega

theorem run_index_logs (k : Nat) (hk : k < 6) (w : World) :
    (Instr.index 104 (.agg #[.int .i64 1000000000, .int .i64 1000000000, .int .i64 1584962500, .int .i64 1584962501, .int .i64 2321928094, .int .i64 2321928095, .int .i64 2807354922, .int .i64 2807354923, .int .i64 3459431618, .int .i64 3459431619, .int .i64 3700439718, .int .i64 3700439719]) (.int .i64 (k : Int))).run Tryz.prog w = .ok (.agg #[.int .i64 (logLo k), .int .i64 (logHi k)]) w := by
  obtain rfl | rfl | rfl | rfl | rfl | rfl : k = 0 ∨ k = 1 ∨ k = 2 ∨ k = 3 ∨ k = 4 ∨ k = 5 := by omega
  all_goals clear hk; kernel_rfl

theorem sumLo_neg {v : V6} {k : Nat} (h : v.get k < 0) : sumLo v (k + 1) = sumLo v k + v.get k * logHi k := by rw [sumLo, if_pos h]
theorem sumHi_neg {v : V6} {k : Nat} (h : v.get k < 0) : sumHi v (k + 1) = sumHi v k + v.get k * logLo k := by rw [sumHi, if_pos h]
theorem sumLo_pos {v : V6} {k : Nat} (h : ¬ v.get k < 0) : sumLo v (k + 1) = sumLo v k + v.get k * logLo k := by rw [sumLo, if_neg h]
theorem sumHi_pos {v : V6} {k : Nat} (h : ¬ v.get k < 0) : sumHi v (k + 1) = sumHi v k + v.get k * logHi k := by rw [sumHi, if_neg h]

/-- What holds at the head of the loop over the exponents. -/
structure ExpRel (v : V6) (W1 : World) (B : Nat) (k : Nat) (wr : World) : Prop where
  below : Below (B + 2) W1 wr
  size : B + 1 + 1 < wr.heap.size
  lo : wr.cell? ⟨B + 1 + 1, 0, none⟩ = some (.int .i64 (sumLo v k))
  hi : wr.cell? ⟨B + 1 + 1, 1, none⟩ = some (.int .i64 (sumHi v k))
  flo : wr.frozen? ⟨B + 1 + 1, 0, none⟩ = false
  fhi : wr.frozen? ⟨B + 1 + 1, 1, none⟩ = false

set_option maxHeartbeats 1000000 in
theorem exponents_any (a0 a1 a2 a3 a4 a5 : Int) (w : World) (hL : Logs w) (hv : allIn ⟨a0, a1, a2, a3, a4, a5⟩ 1152 6 = true) :
    Calls Tryz.prog 41 #[.agg #[.int .i64 a0, .int .i64 a1, .int .i64 a2, .int .i64 a3, .int .i64 a4, .int .i64 a5]] w
      fun e w' => e = .returned (.agg #[.int .i64 (sumLo ⟨a0, a1, a2, a3, a4, a5⟩ 6), .int .i64 (sumHi ⟨a0, a1, a2, a3, a4, a5⟩ 6)]) ∧ Gr w w' := by
  obtain ⟨hpos, l0, l1, l2, l3, l4, l5, l6, l7, l8, l9, l10, l11⟩ := hL.keep (show Gr w (((w.alloc (.cells #[.int .i64 a0, .int .i64 a1, .int .i64 a2, .int .i64 a3, .int .i64 a4, .int .i64 a5] 52)).alloc (.cells #[.int .i64 0, .int .i64 0] 59)).alloc (.cells #[.int .i64 0, .int .i64 0] 59)) from (((Gr.refl w).alloc _).alloc _).alloc _)
  have HV := Lib.hid hv; clear hv
  go_enter Tryz.func41, Tryz.ntmps41
  go_wp2_with fail
  clear l0 l1 l2 l3 l4 l5 l6 l7 l8 l9 l10 l11
  go_loopw [7] (fun i wr => ∃ k : Nat, k ≤ 6 ∧ i = .int .i64 k ∧ ExpRel ⟨a0, a1, a2, a3, a4, a5⟩ (((w.alloc (.cells #[.int .i64 a0, .int .i64 a1, .int .i64 a2, .int .i64 a3, .int .i64 a4, .int .i64 a5] 52)).alloc (.cells #[.int .i64 0, .int .i64 0] 59)).alloc (.cells #[.int .i64 0, .int .i64 0] 59)) w.heap.size k wr) (fun i _ => 6 - (intOf i).toNat)
  case atStart => exact ⟨0, by omega, rfl, ⟨Below.refl _ _, by simp, by simp [go_sem, sumLo], by simp [go_sem, sumHi], by simp [go_sem], by simp [go_sem]⟩⟩
  case round =>
    obtain ⟨k, hk, rfl, hR⟩ := hrel
    have hv := HV.out
    obtain ⟨hbe, hsz, clo, chi, flo, fhi⟩ := hR
    have hc : ∀ b o, b < w.heap.size + 2 → wr.cell? ⟨b, o, none⟩ = _ := fun b o hb => Below.cell (p := ⟨b, o, none⟩) hbe hb
    have hf : ∀ b o, b < w.heap.size + 2 → wr.frozen? ⟨b, o, none⟩ = _ := fun b o hb => Below.frozen (p := ⟨b, o, none⟩) hbe hb
    by_cases hlt : k < 6
    · have hx : wr.cell? ⟨w.heap.size, k, none⟩ = some (.int .i64 (V6.get ⟨a0, a1, a2, a3, a4, a5⟩ k)) := by
        rw [hc _ _ (by omega)]
        obtain rfl | rfl | rfl | rfl | rfl | rfl : k = 0 ∨ k = 1 ∨ k = 2 ∨ k = 3 ∨ k = 4 ∨ k = 5 := by omega
        all_goals simp [go_sem, V6.get]
      have hi := run_index_logs k hlt
      have x1 := (allIn_get hv k hlt).1
      have x2 := (allIn_get hv k hlt).2
      obtain ⟨y1, y2, y3⟩ := log_bd k hlt
      have m1 := mul_bd x1 x2 (show 0 ≤ logLo k by omega) (by omega)
      have m2 := mul_bd x1 x2 (show 0 ≤ logHi k by omega) (by omega)
      obtain ⟨s1, s2⟩ := sum_bd hv k hk
      have hz0 : w.heap.size < wr.heap.size := by omega
      have hz1 : w.heap.size + 1 < wr.heap.size := by omega
      clear hc hf
      by_cases hneg : V6.get ⟨a0, a1, a2, a3, a4, a5⟩ k < 0
      · have hsl := sumLo_neg hneg
        have hsh := sumHi_neg hneg
        clear hv
        generalize hgx : V6.get ⟨a0, a1, a2, a3, a4, a5⟩ k = x at hx x1 x2 m1 m2 hsl hsh
        generalize hgy : logLo k = y at hi y1 y2 m1 hsl hsh
        generalize hgz : logHi k = z at hi y2 y3 m2 hsl hsh
        generalize hgp : sumLo ⟨a0, a1, a2, a3, a4, a5⟩ k = p at clo s1 hsl
        generalize hgq : sumHi ⟨a0, a1, a2, a3, a4, a5⟩ k = q at chi s2 hsh
        rw [hgx] at hneg
        clear hgx hgy hgz hgp hgq
        have HL := Lib.hid hsl; have HH := Lib.hid hsh
        clear hsl hsh
        go_wp2
        go_region
        go_wp2
        go_region
        go_wp2
        go_roundw
        case rel => 
          refine ⟨k + 1, by omega, by go_num, ⟨?_, by simp; omega, ?_, ?_, ?_, ?_⟩⟩
          · exact (by repeat (first | assumption | refine Below.drew ?_ | refine Below.setCell ?_ (by (try simp); (try omega)) _ | refine Below.alloc ?_ (by (try simp); (try omega)) _))
          · rw [HL.out]; simp [go_sem, *]
          · rw [HH.out]; simp [go_sem, *]
          · simp [go_sem, *]
          · simp [go_sem, *]
        case measure => simp [intOf]; omega
      · have hsl := sumLo_pos hneg
        have hsh := sumHi_pos hneg
        clear hv
        generalize hgx : V6.get ⟨a0, a1, a2, a3, a4, a5⟩ k = x at hx x1 x2 m1 m2 hsl hsh
        generalize hgy : logLo k = y at hi y1 y2 m1 hsl hsh
        generalize hgz : logHi k = z at hi y2 y3 m2 hsl hsh
        generalize hgp : sumLo ⟨a0, a1, a2, a3, a4, a5⟩ k = p at clo s1 hsl
        generalize hgq : sumHi ⟨a0, a1, a2, a3, a4, a5⟩ k = q at chi s2 hsh
        rw [hgx] at hneg
        clear hgx hgy hgz hgp hgq
        have HL := Lib.hid hsl; have HH := Lib.hid hsh
        clear hsl hsh
        go_wp2
        go_region
        go_wp2
        go_region
        go_wp2
        go_roundw
        case rel => 
          refine ⟨k + 1, by omega, by go_num, ⟨?_, by simp; omega, ?_, ?_, ?_, ?_⟩⟩
          · exact (by repeat (first | assumption | refine Below.drew ?_ | refine Below.setCell ?_ (by (try simp); (try omega)) _ | refine Below.alloc ?_ (by (try simp); (try omega)) _))
          · rw [HL.out]; simp [go_sem, *]
          · rw [HH.out]; simp [go_sem, *]
          · simp [go_sem, *]
          · simp [go_sem, *]
        case measure => simp [intOf]; omega
    · obtain rfl : k = 6 := by omega
      have hz0 : w.heap.size < wr.heap.size := by omega
      have hz1 : w.heap.size + 1 < wr.heap.size := by omega
      have hw : Gr w wr := Gr.below (Gr.alloc (Gr.alloc (Gr.alloc (Gr.refl _) _) _) _) hbe (by omega)
      go_wp2
      exact bodyPost_ret (v := .agg #[.int .i64 (sumLo ⟨a0, a1, a2, a3, a4, a5⟩ 6), .int .i64 (sumHi ⟨a0, a1, a2, a3, a4, a5⟩ 6)]) (by simp [results, Tryz.results41, go_sem, *]) rfl ⟨rfl, (by repeat (first | exact Gr.refl _ | refine Gr.alloc ?_ _ | refine Gr.drew ?_ | refine Gr.trans ?_ (by assumption) | refine Gr.setCell ?_ (by (try simp); (try omega)) _))⟩
end Go.Proofs.YtelhmdhhabgihaaGreatDoor
