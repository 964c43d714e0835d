/-
  brass.blows: a range over the blows of a horn.
-/
import Derived.Test.YtbaopniofhbjdaaDoorSound1
namespace Go.Proofs.YtbaopniofhbjdaaDoor
open Go.RowKit Go.Shelf
attribute [local go_sem] Oper.semAt_some

/-- A blow: a harmonic less 1, and a set of valves. -/
abbrev BlowIx (m q : Nat) := { p : Nat × Nat // p.1 < m ∧ p.2 < q }
def rowTo (m q i : Nat) : Nat → List (BlowIx m q)
  | 0 => []
  | j + 1 => rowTo m q i j ++ (if h : i < m ∧ j < q then [⟨(i, j), h⟩] else [])
def blowsTo (m q : Nat) : Nat → List (BlowIx m q)
  | 0 => []
  | i + 1 => blowsTo m q i ++ rowTo m q i q
theorem rowTo_yes {m q i j : Nat} (h : i < m ∧ j < q) : rowTo m q i (j + 1) = rowTo m q i j ++ [⟨(i, j), h⟩] := by rw [rowTo, dif_pos h]
theorem rowTo_len (m q i j : Nat) : (rowTo m q i j).length ≤ j := by
  induction j with
  | zero => simp [rowTo]
  | succ j ih =>
    by_cases h : i < m ∧ j < q
    · rw [rowTo_yes h]; simp; omega
    · rw [rowTo, dif_neg h, List.append_nil]; omega
theorem blowsTo_len (m q i : Nat) : (blowsTo m q i).length ≤ i * q := by
  induction i with
  | zero => simp [blowsTo]
  | succ i ih => rw [blowsTo, List.length_append, Nat.add_mul, Nat.one_mul]; have := rowTo_len m q i q; omega
theorem blows_lt {m q i j : Nat} (hi : i < m) (hj : j < q) : (blowsTo m q i ++ rowTo m q i j).length < m * q := by
  rw [List.length_append]
  have h1 := blowsTo_len m q i
  have h2 := rowTo_len m q i j
  have h3 : (i + 1) * q ≤ m * q := Nat.mul_le_mul_right _ hi
  rw [Nat.add_mul, Nat.one_mul] at h3
  omega
def encB {m q : Nat} (p : BlowIx m q) : Array Value := #[.agg #[.int .i64 ((p.1.1 : Int) + 1), .int .i64 (p.1.2 : Int)]]
/-- A round leaves block B alone. -/
def KeepBox (B : Nat) (W W' : World) : Prop := ∀ o, W'.cell? ⟨B, o, none⟩ = W.cell? ⟨B, o, none⟩
theorem keepBox_t {B : Nat} {X Y Z : World} (h : KeepBox B X Y) (k : KeepBox B Y Z) : KeepBox B X Z := fun o => (k o).trans (h o)
theorem keepBox_b {B N : Nat} (hB : B < N) (W : World) (l : Nat) (o o' : Obj) (hl : N ≤ l) (_ : W.heap[l]? = some o) (_ : o.isCells = false) (_ : o.isWalk = false) : KeepBox B W (W.putObj l o') := fun i =>
  World.cell?_of_block (World.putObj_heap_other (by simp; omega))

set_option maxRecDepth 100000 in
set_option maxHeartbeats 2000000 in
theorem blows_in (b0 b1 b2 b3 b4 b5 most tol : Int) (A : Option Addr) (n c : Nat) (N : Nat) (w : World) :
    CallsIn Fence.wide N Tryd.prog 57 #[.agg #[.int .i64 b0, .int .i64 b1, .int .i64 b2, .int .i64 b3, .int .i64 b4, .int .i64 b5, .slice A n c, .int .i64 most, .int .i64 tol]] w
      fun e w' => e = .returned (.func (.func 82) #[] #[.pointer (some ⟨w.heap.size, 0, none⟩)]) ∧ w' = w.alloc (.cells #[.int .i64 b0, .int .i64 b1, .int .i64 b2, .int .i64 b3, .int .i64 b4, .int .i64 b5, .slice A n c, .int .i64 most, .int .i64 tol] 26) := by
  refine callsIn_wide.2 ?_
  have hmf : ∀ (fn : Fn) (first cap : Array Value) (w : World), (Instr.makeFunc fn first cap).run Tryd.prog w = .ok (.func fn first cap) w := fun _ _ _ _ => rfl
  go_enter Tryd.func57, Tryd.ntmps57
  go_wp2
  go_ret
  exact ⟨rfl, rfl⟩

set_option maxRecDepth 100000 in
set_option maxHeartbeats 4000000 in
theorem blows_stops (A : Option Addr) (n c m Q : Nat) (hQ : 2 ^ n = Q) (hn : n ≤ 4) (hm : m ≤ 16) (N : Nat) (hN : 1 ≤ N) (Bn : Nat) (w : World) (hBn : Bn < w.heap.size)
    (hA : w.cell? ⟨Bn, 6, none⟩ = some (.slice A n c)) (hM : w.cell? ⟨Bn, 7, none⟩ = some (.int .i64 (m : Int))) :
    SeqStopsK Fence.wide N Tryd.prog 82 #[.pointer (some ⟨Bn, 0, none⟩)] (encB (m := m) (q := Q)) (KeepBox Bn) (fun xs => xs = blowsTo m Q m) (fun _ => True) (m * Q) w := fun l J Jx W hW _ _ hY h0 => by
  have HA := Lib.hid ((hW.cell (p := ⟨Bn, 6, none⟩) hBn).trans hA); have HM := Lib.hid ((hW.cell (p := ⟨Bn, 7, none⟩) hBn).trans hM)
  have hm0 := HM.out
  have HY := Lib.hid hY; have H0 := Lib.hid h0
  have hQ16 : Q ≤ 16 := by rw [← hQ]; exact Nat.le_trans (Nat.pow_le_pow_right (by omega) hn) (by decide)
  have hpow : (2 : Int) ^ n = (Q : Int) := by rw [← hQ]; simp
  clear hQ
  clear hA hM hY h0
  refine callsIn_of_wp Tryd.func82 rfl trivial ?_ rfl
  simp only [Tryd.ntmps82, List.size_toArray, List.length_cons, List.length_nil, Nat.reduceAdd, Nat.reduceSub, Array.replicate_succ, Array.replicate_zero, List.push_toArray, List.append_toArray, List.nil_append, List.cons_append]
  gi_wp2
  gi_loopw [7] (fun i wr => ∃ k : Nat, k ≤ m ∧ i = .int .i64 k ∧ J (blowsTo m Q k) wr ∧ KeepBox Bn W wr) (fun i _ => m - (intOf i).toNat)
  case atStart => exact ⟨0, by omega, rfl, H0.out, fun _ => rfl⟩
  case round =>
    obtain ⟨k, hk, rfl, hJ, hB⟩ := hrel
    have HJ := Lib.hid hJ; have HB := Lib.hid hB
    clear hJ hB hm0
    by_cases hlt : k < m
    · have hsl := (HB.out 6).trans HA.out
      obtain ⟨wo, rfl⟩ : ∃ wo : World, wo = wr := ⟨_, rfl⟩
      gi_wp2
      clear hsl
      gi_loopw [14] (fun v wr => ∃ j : Nat, j ≤ Q ∧ v = .int .i64 j ∧ J (blowsTo m Q k ++ rowTo m Q k j) wr ∧ KeepBox Bn W wr) (fun v _ => Q - (intOf v).toNat)
      case atStart => exact ⟨0, Nat.zero_le _, rfl, by rw [rowTo, List.append_nil]; exact HJ.out, HB.out⟩
      case round =>
        obtain ⟨j, hj, rfl, hJ, hB⟩ := hrel
        have HJ2 := Lib.hid hJ; have HB2 := Lib.hid hB
        clear hJ hB HJ HB
        by_cases hjt : j < Q
        · obtain ⟨fn, tmps, assign, body, hy, hR⟩ := HY.out _ ⟨(k, j), hlt, hjt⟩ wr HJ2.out (blows_lt hlt hjt)
          rw [List.append_assoc, ← rowTo_yes ⟨hlt, hjt⟩] at hR
          dsimp only [encB] at hy
          gi_wp2
          refine hR.mono ?_
          rintro e W' (⟨rfl, hJ', hk'⟩ | ⟨rfl, hJx'⟩)
          · have HJ' := Lib.hid hJ'; have HB' := Lib.hid (keepBox_t HB2.out hk')
            clear hJ' hk'
            gi_wp2
            go_roundw
            case rel => exact ⟨j + 1, by omega, by go_num, HJ'.out, HB'.out⟩
            case measure => simp [intOf]; omega
          · have HJ' := Lib.hid hJx'
            clear hJx'
            gi_wp2
            refine bodyPost_ret (results_none rfl _ _ _) rfl ?_
            exact ⟨⟨_, rfl⟩, .inr ⟨_, trivial, HJ'.out⟩⟩
        · obtain rfl : j = Q := by omega
          have HJ3 : Hid (J (blowsTo m j (k + 1)) wr) := Lib.hid HJ2.out
          clear HJ2
          obtain ⟨wi, rfl⟩ : ∃ wi : World, wi = wr := ⟨_, rfl⟩
          gi_wp2
          go_roundw
          case rel => exact ⟨k + 1, by omega, by go_num, HJ3.out, HB2.out⟩
          case measure => simp [intOf]; omega
    · obtain rfl : k = m := by omega
      gi_wp2
      go_end0
      exact ⟨⟨_, rfl⟩, .inl ⟨_, rfl, HJ.out⟩⟩
end Go.Proofs.YtbaopniofhbjdaaDoor
