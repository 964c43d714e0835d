/-
  pitch.factors: a range over the primes whose exponents are not 0.
-/
import Derived.Test.YtohalcookjbaaaaDoorApp
namespace Go.Proofs.YtohalcookjbaaaaDoor
open Go.RowKit Go.Shelf
attribute [local go_sem] Oper.semAt_some

def primeI : Nat → Int
  | 0 => 2
  | 1 => 3
  | 2 => 5
  | 3 => 7
  | 4 => 11
  | _ => 13
/-- What the table of primes reads as. -/
structure Primes (w : World) : Prop where
  lt : 0 < w.heap.size
  cell : ∀ k, k < 6 → w.cell? ⟨0, k, none⟩ = some (.int .i64 (primeI k))
theorem Primes.below {w w' : World} {n : Nat} (h : Primes w) (g : Below n w w') (hn : 0 < n) : Primes w' :=
  ⟨Nat.lt_of_lt_of_le h.lt g.size, fun k hk => (Below.cell (p := ⟨0, k, none⟩) g hn).trans (h.cell k hk)⟩
theorem Primes.keep {w w' : World} (h : Primes w) (g : Gr w w') : Primes w' := h.below g h.lt

/-- An index of an exponent that is not 0. -/
abbrev Ix6 (v : V6) := { k : Nat // k < 6 ∧ v.get k ≠ 0 }
def idxs (v : V6) : Nat → List (Ix6 v)
  | 0 => []
  | n + 1 => idxs v n ++ (if h : n < 6 ∧ v.get n ≠ 0 then [⟨n, h⟩] else [])
theorem idxs_yes {v : V6} {n : Nat} (h : n < 6 ∧ v.get n ≠ 0) : idxs v (n + 1) = idxs v n ++ [⟨n, h⟩] := by rw [idxs, dif_pos h]
theorem idxs_no {v : V6} {n : Nat} (h : ¬ (n < 6 ∧ v.get n ≠ 0)) : idxs v (n + 1) = idxs v n := by rw [idxs, dif_neg h, List.append_nil]
theorem idxs_len (v : V6) (n : Nat) : (idxs v n).length ≤ n := by
  induction n with
  | zero => simp [idxs]
  | succ n ih =>
    by_cases h : n < 6 ∧ v.get n ≠ 0
    · rw [idxs_yes h]; simp; omega
    · rw [idxs_no h]; omega
def encF (v : V6) (x : Ix6 v) : Array Value := #[.int .i64 (primeI x.1), .int .i64 (v.get x.1)]

set_option maxRecDepth 100000 in
set_option maxHeartbeats 2000000 in
theorem factors_in (a0 a1 a2 a3 a4 a5 : Int) (n : Nat) (w : World) :
    CallsIn Fence.wide n Tryd.prog 60 #[.agg #[.int .i64 a0, .int .i64 a1, .int .i64 a2, .int .i64 a3, .int .i64 a4, .int .i64 a5]] w
      fun e w' => e = .returned (.func (.func 71) #[] #[.pointer (some ⟨w.heap.size, 0, none⟩)]) ∧ w' = w.alloc (.cells #[.int .i64 a0, .int .i64 a1, .int .i64 a2, .int .i64 a3, .int .i64 a4, .int .i64 a5] 38) := by
  refine callsIn_wide.2 ?_
  have hmf : ∀ (fn : Fn) (first cap : Array Value) (w : World), (Instr.makeFunc fn first cap).run Tryd.prog w = .ok (.func fn first cap) w := fun _ _ _ _ => rfl
  go_enter Tryd.func60, Tryd.ntmps60
  go_wp2
  go_ret
  exact ⟨rfl, rfl⟩

set_option maxRecDepth 100000 in
set_option maxHeartbeats 4000000 in
theorem factors_stops (a0 a1 a2 a3 a4 a5 : Int) (n : Nat) (hn : 1 ≤ n) (Bn n₀ : Nat) (w : World) (hBn : Bn < w.heap.size) (hn₀ : n₀ ≤ w.heap.size) (hp0 : 0 < n₀) (hP : Primes w)
    (hc : ∀ j, j < 6 → w.cell? ⟨Bn, j, none⟩ = some (.int .i64 (V6.get ⟨a0, a1, a2, a3, a4, a5⟩ j))) :
    SeqStopsK Fence.wide n Tryd.prog 71 #[.pointer (some ⟨Bn, 0, none⟩)] (encF ⟨a0, a1, a2, a3, a4, a5⟩) (Below n₀) (fun xs => xs = idxs ⟨a0, a1, a2, a3, a4, a5⟩ 6) (fun _ => True) 6 w := fun l J Jx W hW _ _ hY h0 => by
  have hC : ∀ j, j < 6 → W.cell? ⟨Bn, j, none⟩ = some (.int .i64 (V6.get ⟨a0, a1, a2, a3, a4, a5⟩ j)) := fun j hj => (hW.cell (p := ⟨Bn, j, none⟩) hBn).trans (hc j hj)
  have c0 := hC 0 (by omega); have c1 := hC 1 (by omega); have c2 := hC 2 (by omega); have c3 := hC 3 (by omega); have c4 := hC 4 (by omega); have c5 := hC 5 (by omega)
  simp only [V6.get] at c0 c1 c2 c3 c4 c5
  have HPW := Lib.hid (hP.below (hW.mono hn₀) hp0)
  have HY := Lib.hid hY; have H0 := Lib.hid h0
  clear hC hc hP hY h0
  refine callsIn_of_wp Tryd.func71 rfl trivial ?_ rfl
  simp only [Tryd.ntmps71, List.size_toArray, List.length_cons, List.length_nil, Nat.reduceAdd, Nat.reduceSub, Array.replicate_succ, Array.replicate_zero, List.push_toArray, List.append_toArray, List.nil_append, List.cons_append]
  gi_wp2
  gi_loopw [6] (fun i wr => ∃ k : Nat, k ≤ 6 ∧ i = .int .i64 k ∧ J (idxs ⟨a0, a1, a2, a3, a4, a5⟩ k) wr ∧ Below n₀ W wr)
    (fun i _ => 6 - (intOf i).toNat)
  case atStart => exact ⟨0, by omega, rfl, H0.out, Below.refl _ _⟩
  case round =>
    obtain ⟨k, hk, rfl, hJ, hB⟩ := hrel
    have HJ := Lib.hid hJ; have HB := Lib.hid hB
    clear hJ hB c0 c1 c2 c3 c4 c5
    by_cases hlt : k < 6
    · have hx := run_index6 a0 a1 a2 a3 a4 a5 k hlt
      have hpc := (HPW.out.below HB.out hp0).cell k hlt
      by_cases he : V6.get ⟨a0, a1, a2, a3, a4, a5⟩ k = 0
      · have HE := Lib.hid (idxs_no (v := ⟨a0, a1, a2, a3, a4, a5⟩) (n := k) (fun h => h.2 he))
        rw [he] at hx
        clear he
        gi_wp2
        refine ⟨fun _ h => (by cases h), ?_⟩
        gi_wp2
        go_roundw
        case rel => exact ⟨k + 1, by omega, by go_num, by rw [HE.out]; exact HJ.out, HB.out⟩
        case measure => simp [intOf]; omega
      · obtain ⟨fn, tmps, assign, body, hy, hR⟩ := HY.out (idxs ⟨a0, a1, a2, a3, a4, a5⟩ k) ⟨k, hlt, he⟩ wr HJ.out (Nat.lt_of_le_of_lt (idxs_len _ _) hlt)
        rw [← idxs_yes (v := ⟨a0, a1, a2, a3, a4, a5⟩) (n := k) ⟨hlt, he⟩] at hR
        dsimp only [encF] at hy
        generalize V6.get ⟨a0, a1, a2, a3, a4, a5⟩ k = x at hx hy he
        generalize primeI k = q at hpc hy
        have hb : (x != 0) = true := by simpa using he
        clear he
        gi_wp2
        refine hR.mono ?_
        rintro e W' (⟨rfl, hJ', hk'⟩ | ⟨rfl, hJx'⟩)
        · have HJ' := Lib.hid hJ'; have HB' := Lib.hid (HB.out.trans hk')
          clear hJ' hk'
          gi_wp2
          go_roundw
          case rel => exact ⟨k + 1, by omega, by go_num, HJ'.out, HB'.out⟩
          case measure => simp [intOf]; omega
        · have HJ' := Lib.hid hJx'
          clear hJx'
          gi_wp2
          refine bodyPost_ret (results_none rfl _ _ _) rfl ?_
          exact ⟨⟨_, rfl⟩, .inr ⟨_, trivial, HJ'.out⟩⟩
    · obtain rfl : k = 6 := by omega
      gi_wp2
      go_end0
      exact ⟨⟨_, rfl⟩, .inl ⟨_, rfl, HJ.out⟩⟩
end Go.Proofs.YtohalcookjbaaaaDoor
