/-
  package voice: rows of integers of the call's own: the numbers below n; slices.Repeat.
  slices.Repeat of a slice of one integer.
  package voice: the shortest ways to a note, level by level: plain words.
  A queue: a slice of the call's own that is appended to at its end and cut at its head.
  package voice: distances: how far each note is from the last one.
-/
import Derived.Test.YtiogfohjepobkaaDoorBrea1
import Derived.Test.YtiogfohjepobkaaDoorOwnL
import Derived.Lib.Mul64
import Derived.Laws.Bits64b
import Derived.Laws.CopyOwn
import Derived.Deep.RegionLaw
import Derived.IntWalk
import Derived.Test.YtiogfohjepobkaaDoorHeld
import Derived.Test.YtiogfohjepobkaaDoorBase
import Derived.ArgAppend
namespace Go.Proofs.YtiogfohjepobkaaDoor
open Go.RowKit

theorem mul_mask (a : Nat) (ha : a < 18446744073709551616) : bits .and .u64 (a : Int) 4294967295 = ((a % 4294967296 : Nat) : Int) := by
  have h := bits_and_u64_nat a 4294967295 ha (by omega)
  have e : a &&& 4294967295 = a % 4294967296 := Nat.and_two_pow_sub_one_eq_mod a 32
  rw [e] at h
  exact h
theorem mul_div (a : Nat) : (a : Int) / 4294967296 = ((a / 4294967296 : Nat) : Int) := by omega
theorem mul_mul (a b : Nat) : (a : Int) * (b : Int) = ((a * b : Nat) : Int) := (Int.natCast_mul a b).symm
theorem mul_add' (a b : Nat) : (a : Int) + (b : Int) = ((a + b : Nat) : Int) := (Int.natCast_add a b).symm
theorem mul_wrap (a : Nat) (ha : a < 18446744073709551616) : IntKind.u64.wrap (a : Int) = (a : Int) := by rw [IntKind.wrap_u64]; omega
theorem mul_wrapM (a : Nat) : IntKind.u64.wrap (a : Int) = ((a % 18446744073709551616 : Nat) : Int) := by rw [IntKind.wrap_u64]; omega

set_option maxHeartbeats 1000000 in
theorem mul64_any (x y : Nat) (hx : x < 18446744073709551616) (hy : y < 18446744073709551616) (w : World) :
    Calls Tryd.prog 94 #[.int .u64 x, .int .u64 y] w fun e w' => e = .returned (.tuple #[.int .u64 ((x * y / 18446744073709551616 : Nat) : Int), .int .u64 ((x * y % 18446744073709551616 : Nat) : Int)]) ∧ w = w' := by
  obtain ⟨bd, bt, bw, hhi⟩ := Lib.mul64_hi x y hx hy
  have ba := Lib.half_mul_le (a := x / 4294967296) (b := y / 4294967296) (by omega) (by omega)
  have bb := Lib.half_mul_le (a := x / 4294967296) (b := y % 4294967296) (by omega) (by omega)
  have bc := Lib.half_mul_le (a := x % 4294967296) (b := y / 4294967296) (by omega) (by omega)
  have ba' : x / 4294967296 * (y / 4294967296) < 18446744073709551616 := by omega
  have bb' : x / 4294967296 * (y % 4294967296) < 18446744073709551616 := by omega
  have bc' : x % 4294967296 * (y / 4294967296) < 18446744073709551616 := by omega
  have bh1 : x / 4294967296 * (y / 4294967296) + (x / 4294967296 * (y % 4294967296) + x % 4294967296 * (y % 4294967296) / 4294967296) / 4294967296 < 18446744073709551616 := by omega
  have bh : x / 4294967296 * (y / 4294967296) + (x / 4294967296 * (y % 4294967296) + x % 4294967296 * (y % 4294967296) / 4294967296) / 4294967296 + ((x / 4294967296 * (y % 4294967296) + x % 4294967296 * (y % 4294967296) / 4294967296) % 4294967296 + x % 4294967296 * (y / 4294967296)) / 4294967296 < 18446744073709551616 := by omega
  go_enter Tryd.func94, Tryd.ntmps94
  go_wp2
  simp only [mul_mask x hx, mul_mask y hy, mul_div, mul_mul, mul_add', mul_wrap _ bd, mul_wrap _ bb', mul_wrap _ bt, mul_mask _ bt, mul_wrap _ bc', mul_wrap _ bw, mul_wrap _ ba', mul_wrap _ bh1, mul_wrap _ bh, mul_wrapM (x * y)]
  rw [hhi]
  go_ret2
  exact ⟨rfl, rfl⟩
theorem mul_one (n : Nat) (hn : n ≤ 200) (w : World) : Calls Tryd.prog 77 #[.int .u64 1, .int .u64 (n : Int)] w fun e w' => e = .returned (.tuple #[.int .u64 0, .int .u64 (n : Int)]) ∧ w = w' := by
  have h := mul64_any 1 n (by omega) (by omega) w
  rw [show 1 * n / 18446744073709551616 = 0 by omega, show 1 * n % 18446744073709551616 = n by omega] at h
  have H := Lib.hid h
  clear h
  go_enter Tryd.func77, Tryd.ntmps77
  go_wp2_with (go_at_call 94; refine H.out.mono ?_; rintro e w' ⟨rfl, rfl⟩)
  go_ret2
  exact ⟨rfl, rfl⟩

/-- n integers lie at the head of block g, which may be written. -/
structure IntRow (W : World) (g n : Nat) (u : Nat → Int) : Prop where
  lt : g < W.heap.size
  froz : ∀ o, W.frozen? ⟨g, o, none⟩ = false
  cell : ∀ j, j < n → W.cell? ⟨g, j, none⟩ = some (.int .i64 (u j))
theorem IntRow.keep {W W' : World} {g n : Nat} {u : Nat → Int} (h : IntRow W g n u) (k : Gr W W') : IntRow W' g n u :=
  ⟨Nat.lt_of_lt_of_le h.lt k.le, fun o => (Below.frozen (p := ⟨g, o, none⟩) k h.lt).trans (h.froz o), fun j hj => (Below.cell (p := ⟨g, j, none⟩) k h.lt).trans (h.cell j hj)⟩
theorem IntRow.store {W : World} {g n : Nat} {u : Nat → Int} (h : IntRow W g n u) {k : Nat} (hk : k < n) (x : Int) : IntRow (W.setCell ⟨g, k, none⟩ (.int .i64 x)) g n (fun j => if j = k then x else u j) := by
  refine ⟨by simpa using h.lt, fun o => by rw [World.frozen?_setCell]; exact h.froz o, fun j hj => ?_⟩
  have hc := h.cell k hk
  by_cases e : j = k
  · subst e; simp [go_sem, hc]
  · have hj' := h.cell j hj
    simp [go_sem, e, hj']
theorem IntRow.congr {W : World} {g n : Nat} {u u' : Nat → Int} (h : IntRow W g n u) (e : ∀ j, j < n → u j = u' j) : IntRow W g n u' := ⟨h.lt, h.froz, fun j hj => by rw [h.cell j hj, e j hj]⟩
theorem IntRow.ints {W : World} {g n : Nat} {u : Nat → Int} (h : IntRow W g n u) : IntsAt W (some ⟨g, 0, none⟩) n u := fun _ => ⟨g, 0, rfl, h.lt, fun i hi => by rw [Nat.zero_add]; exact h.cell i hi⟩
theorem intRow_own {W : World} {base e g n c : Nat} {xs : List Value} {u : Nat → Int} (h : W.ownsRow base e 1 (.slice (some ⟨g, 0, none⟩) n c) n xs) (hu : ∀ j, j < n → xs[j]? = some (.int .i64 (u j))) : IntRow W g n u :=
  ⟨(h.lt g rfl).2, fun o => h.frozenAt o, fun j hj => by rw [h.cellAt j (by omega)]; exact hu j hj⟩
theorem infoI : (Tryd.prog.info? 3).map (fun i => (i.zero, i.size, i.bytes)) = some (some (.int .i64 0), 1, 8) := by kernel_rfl
theorem made_ints {w W1 : World} {n : Nat} (hown : W1.ownsRow w.heap.size 3 1 (.slice (some ⟨w.heap.size, 0, none⟩) n n) n (madeCells (Value.int .i64 0).cells (n * 1)).toList) (hg : w.grownBy W1 none) : Gr w W1 ∧ IntRow W1 w.heap.size n (fun _ => 0) := by
  refine ⟨(Below.refl _ _).grown hg (Nat.le_refl _) (fun _ h => by cases h), intRow_own hown fun j hj => ?_⟩
  rw [show (Value.int .i64 0).cells = #[.int .i64 0] from rfl, toList_madeCells_one, List.getElem?_replicate, if_pos (by omega)]

set_option maxRecDepth 100000 in
set_option maxHeartbeats 4000000 in
theorem indices_any (n : Nat) (hn : n ≤ 200) (w : World) : Calls Tryd.prog 45 #[.int .i64 (n : Int)] w fun e w' => e = .returned (.slice (some ⟨w.heap.size, 0, none⟩) n n) ∧ IntRow w' w.heap.size n (fun j => (j : Int)) ∧ Gr w w' := by
  obtain ⟨i0, hi, hz0, hz1, hz2⟩ := info_parts infoI
  go_enter Tryd.func45, Tryd.ntmps45
  go_wp2_with (at_make; refine wpList_make_full _ rfl _ _ 27 rfl w.heap.size 3 i0 (.int .i64 0) 1 Tryd.underlying27 hi hz0 hz1 _ _ _ _ n rfl rfl (by simp) (by simp) (by rw [hz2]; omega) (by unfold maxLen; omega) (Nat.le_refl _) ?_; intro W1 hown hgrow)
  obtain ⟨hg1, hr1⟩ := made_ints hown hgrow
  have HG1 := Lib.hid hg1; have HR1 := Lib.hid hr1
  clear hg1 hr1 hown hgrow hi hz0 hz1 hz2
  generalize hS : w.heap.size = S at *
  have HS := Lib.hid hS
  clear hS
  go_loopw [9] (fun i wr => ∃ k : Nat, k ≤ n ∧ i = .int .i64 k ∧ IntRow wr S n (fun j => if j < k then (j : Int) else 0) ∧ Gr w wr) (fun i _ => n - (intOf i).toNat)
  case atStart => exact ⟨0, Nat.zero_le _, rfl, HR1.out.congr (fun j _ => by simp), HG1.out⟩
  case round =>
    obtain ⟨k, hk, rfl, hR, hG⟩ := hrel
    by_cases hlt : k < n
    · have hc := hR.cell k hlt
      have hf := hR.froz (0 + k)
      rw [Nat.zero_add] at hf
      have HRn := Lib.hid ((hR.store hlt (k : Int)).congr (u' := fun j => if j < k + 1 then (j : Int) else 0) (fun j _ => by
        by_cases e : j = k
        · subst e; simp
        · simp only [e, if_false]; by_cases h : j < k
          · rw [if_pos h, if_pos (by omega)]
          · rw [if_neg h, if_neg (by omega)]))
      have HGn := Lib.hid (hG.setCell (p := ⟨S, k, none⟩) (by have := HS.out; show _ ≤ S; omega) (.int .i64 (k : Int)))
      clear hR hG
      obtain ⟨wp, rfl⟩ : ∃ wp : World, wp = wr := ⟨_, rfl⟩
      go_wp2
      go_roundw
      case rel => exact ⟨k + 1, by omega, by go_num, HRn.out, HGn.out⟩
      case measure => simp [intOf]; omega
    · obtain rfl : n = k := by omega
      have HRn := Lib.hid (hR.congr (u' := fun j => (j : Int)) (fun j hj => if_pos hj)); have HGn := Lib.hid hG
      clear hR hG
      obtain ⟨wp, rfl⟩ : ∃ wp : World, wp = wr := ⟨_, rfl⟩
      go_wp2
      go_ret
      have e := HS.out
      clear HS
      subst e
      exact ⟨rfl, HRn.out, HGn.out⟩
end Go.Proofs.YtiogfohjepobkaaDoor

namespace Go.Proofs.YtiogfohjepobkaaDoor
open Go.RowKit

theorem intRow_block {W : World} {g n : Nat} {T : TypeId} {cur : List Value} {v : Int} (h : W.heap[g]? = some (.cells cur.toArray T (0, 0))) (hv : ∀ j, j < n → cur[j]? = some (.int .i64 v)) : IntRow W g n (fun _ => v) := by
  refine ⟨(Array.getElem?_eq_some_iff.1 h).1, fun o => by simp [World.frozen?, h], fun j hj => ?_⟩
  have := hv j hj
  simp [World.cell?, h, this]
theorem splice_rep {cur : List Value} {k m : Nat} {v : Value} (hc : ∀ j, j < k → cur[j]? = some v) (hf : k + m ≤ cur.length) : ∀ j, j < k + m → (splice cur k (List.replicate m v))[j]? = some v := by
  intro j hj
  unfold splice
  have hlen : (cur.take k).length = k := by rw [List.length_take]; omega
  by_cases h : j < k
  · rw [List.getElem?_append_left (by omega), List.getElem?_take]
    rw [if_pos h]; exact hc j h
  · rw [List.getElem?_append_right (by omega), hlen, List.getElem?_append_left (by simp; omega), List.getElem?_replicate, if_pos (by omega)]

theorem made_block {w W1 : World} {n : Nat} {e : TypeId} {xs : List Value} (hown : W1.ownsRow w.heap.size e 1 (.slice (some ⟨w.heap.size, 0, none⟩) n n) n xs) : ∃ cur : List Value, cur.length = n ∧ W1.heap[w.heap.size]? = some (.cells cur.toArray e (0, 0)) := by
  rcases hown.2 with ⟨h, _⟩ | ⟨g, cap, cur, hv, hb, hg, _, _, hs, _⟩
  · cases h
  · cases hv
    exact ⟨cur.toList, by simpa using hs, by simpa using hg⟩

theorem cell_rep {W : World} {b off m : Nat} {x : Value} (h : ∀ j, j < m → W.cell? ⟨b, off + j, none⟩ = some x) : ∀ j u, (List.replicate m x)[j]? = some u → W.cell? ((⟨b, off, none⟩ : Addr).add j) = some u := by
  intro j u hj
  rw [List.getElem?_replicate] at hj
  split at hj
  · rename_i hlt
    cases hj
    rw [Addr.add_lit]
    exact h j hlt
  · cases hj

set_option maxRecDepth 100000 in
set_option maxHeartbeats 4000000 in
theorem repeat_one (b off c n : Nat) (v : Int) (w : World) (hb : b < w.heap.size) (hv : w.cell? ⟨b, off, none⟩ = some (.int .i64 v)) (h1 : 1 ≤ n) (hn : n ≤ 200) :
    Calls Tryd.prog 61 #[.slice (some ⟨b, off, none⟩) 1 c, .int .i64 (n : Int)] w fun e w' => e = .returned (.slice (some ⟨w.heap.size, 0, none⟩) n n) ∧ IntRow w' w.heap.size n (fun _ => v) ∧ Gr w w' := by
  obtain ⟨i0, hi, hz0, hz1, hz2⟩ := info_parts infoI
  have hsz : (Tryd.prog.info? 3).map (·.size) = some 1 := by kernel_rfl
  have HM := Lib.hid (fun W => mul_one n hn W)
  have hw1 : IntKind.u64.wrap (n : Int) = (n : Int) := mul_wrap n (by omega)
  have hw2 : IntKind.i64.wrap (n : Int) = (n : Int) := IntWalk.i64_in _ ⟨by omega, by omega⟩
  go_enter Tryd.func61, Tryd.ntmps61
  go_wp2_with (first | (go_at_call 77; refine (HM.out _).mono ?_; rintro e w' ⟨rfl, rfl⟩) | (at_make; refine wpList_make_full _ rfl _ _ 27 rfl w.heap.size 3 i0 (.int .i64 0) 1 Tryd.underlying27 hi hz0 hz1 _ _ _ _ n rfl rfl (by simp) (by simp) (by rw [hz2]; omega) (by unfold maxLen; omega) (Nat.le_refl _) ?_; intro W1 hown hgrow; obtain ⟨cur, hcl, hg0⟩ := made_block hown; have hgr0 := (made_ints hown hgrow).1; have hv1 := (Below.cell (p := ⟨b, off, none⟩) hgr0 hb).trans hv; have HSRC := Lib.hid (cell_rep (m := 1) (fun j hj => by obtain rfl : j = 0 := (by omega); exact hv1)); have HG0 := Lib.hid hg0; have HGR0 := Lib.hid hgr0; clear hown hgrow hv hv1 hg0 hgr0) | (refine wpList_copy_splice rfl (.tmp 31) (.tmp 32) 27 27 rfl 3 Tryd.underlying27 hsz (some ⟨w.heap.size, 0, none⟩) (some ⟨b, off, none⟩) n n 1 c rfl rfl w.heap.size 0 cur 3 HG0.out (List.replicate 1 (.int .i64 v)) (by rw [List.length_replicate]; exact (Nat.min_eq_left h1).symm) (fun _ => ⟨rfl, _, rfl, HSRC.out⟩) (by rw [List.length_replicate]; omega) (by intro u hu; rw [List.eq_of_mem_replicate hu]; rfl) w.heap.size w HGR0.out (Nat.le_refl _) ?_; intro w2 hg2 hb2))
  have hlen : (splice cur 0 (List.replicate 1 (Value.int .i64 v))).length = n := by rw [length_splice _ _ _ (by rw [List.length_replicate]; omega)]; exact hcl
  have HI0 : Hid (∃ cu : List Value, w2.heap[w.heap.size]? = some (.cells cu.toArray 3 (0, 0)) ∧ cu.length = n ∧ ∀ j, j < 1 → cu[j]? = some (.int .i64 v)) := Lib.hid ⟨_, hg2.out, hlen, fun j hj => splice_rep (cur := cur) (k := 0) (m := 1) (v := Value.int .i64 v) (fun j hj => absurd hj (by omega)) (by omega) j (by omega)⟩
  have HB2 := Lib.hid hb2
  have HSS : Hid (w.heap.size = w.heap.size) := Lib.hid rfl
  clear hlen hg2 hb2 hcl
  go_loopw [8] (fun i wr => ∃ k : Nat, 1 ≤ k ∧ k ≤ n ∧ i = .int .i64 k ∧ (∃ cu : List Value, wr.heap[w.heap.size]? = some (.cells cu.toArray 3 (0, 0)) ∧ cu.length = n ∧ ∀ j, j < k → cu[j]? = some (.int .i64 v)) ∧ Below w.heap.size w wr) (fun i _ => n - (intOf i).toNat)
  case atStart => exact ⟨1, Nat.le_refl _, h1, rfl, HI0.out, HB2.out⟩
  case round =>
    obtain ⟨k, hk1, hk2, rfl, ⟨cu, hgk, hcl, hcu⟩, hB⟩ := hrel
    clear HI0 HB2
    by_cases hlt : k < n
    · have hm1 : min k (n - k) ≤ k := Nat.min_le_left _ _
      have hm2 : min k (n - k) ≤ n - k := Nat.min_le_right _ _
      have hm3 : 0 < min k (n - k) := by omega
      generalize hmm : min k (n - k) = m at hm1 hm2 hm3
      have HM1 := Lib.hid hmm
      have HGK := Lib.hid hgk; have HCL := Lib.hid hcl; have HCU := Lib.hid hcu; have HB := Lib.hid hB
      have hwr : IntKind.i64.wrap ((k : Int) + (m : Int)) = ((k + m : Nat) : Int) := (IntWalk.i64_in _ ⟨by omega, by omega⟩).trans (by omega)
      clear hmm hgk hcl hcu hB
      obtain ⟨wp, rfl⟩ : ∃ wp : World, wp = wr := ⟨_, rfl⟩
      have HS2 := Lib.hid (cell_rep (W := wp) (b := w.heap.size) (off := 0) (m := m) (x := Value.int .i64 v) (fun j hj => by rw [Nat.zero_add]; exact (intRow_block HGK.out HCU.out).cell j (by omega)))
      have hnk : ¬ n = k := by omega
      go_wp2_with fail
      refine wp_region_held_drew (S := fun wx => Below w.heap.size w wx) (by kernel_rfl) (HB.out.drew) (fun hHeld => ?_)
      refine take_at (i := 0) (oi := _) (d := some 38) (v := ?_) rfl rfl (by kernel_rfl) (by kernel_rfl) (by kernel_rfl) (fun _ _ _ h => h) (Or.inl ⟨by rfl, ?_⟩) hHeld ?_
      rotate_left
      next => (intro w hSw; (try dsimp only at hSw); go_simp; try with_reducible rfl)
      try simp only [Act.put, List.setIfInBounds_toArray, List.set_cons_zero, List.set_cons_succ]
      refine take_at (i := 1) (oi := _) (d := some 39) (v := ?_) rfl rfl (by kernel_rfl) (by kernel_rfl) (by kernel_rfl) (fun _ _ _ h => h) (Or.inl ⟨by rfl, ?_⟩) hHeld ?_
      rotate_left
      next => (intro w hSw; (try dsimp only at hSw); go_simp; try with_reducible rfl)
      try simp only [Act.put, List.setIfInBounds_toArray, List.set_cons_zero, List.set_cons_succ]
      refine take_at (i := 2) (oi := _) (d := some 40) (v := ?_) rfl rfl (by kernel_rfl) (by kernel_rfl) (by kernel_rfl) (fun _ _ _ h => h) (Or.inl ⟨by rfl, ?_⟩) hHeld ?_
      rotate_left
      next => (intro w hSw; (try dsimp only at hSw); go_simp; try with_reducible rfl)
      try simp only [Act.put, List.setIfInBounds_toArray, List.set_cons_zero, List.set_cons_succ]
      refine take_at (i := 3) (oi := _) (d := some 41) (v := ?_) rfl rfl (by kernel_rfl) (by kernel_rfl) (by kernel_rfl) (fun _ _ _ h => h) (Or.inl ⟨by rfl, ?_⟩) hHeld ?_
      rotate_left
      next => (intro w hSw; (try dsimp only at hSw); go_simp; try with_reducible rfl)
      try simp only [Act.put, List.setIfInBounds_toArray, List.set_cons_zero, List.set_cons_succ]
      refine take_at (i := 4) (oi := _) (d := some 42) (v := ?_) rfl rfl (by kernel_rfl) (by kernel_rfl) (by kernel_rfl) (fun _ _ _ h => h) (Or.inl ⟨by rfl, ?_⟩) hHeld ?_
      rotate_left
      next => (intro w hSw; (try dsimp only at hSw); go_simp; try with_reducible rfl)
      try simp only [Act.put, List.setIfInBounds_toArray, List.set_cons_zero, List.set_cons_succ]
      refine take_at (i := 5) (oi := _) (d := some 43) (v := ?_) rfl rfl (by kernel_rfl) (by kernel_rfl) (by kernel_rfl) (fun _ _ _ h => h) (Or.inl ⟨by rfl, ?_⟩) hHeld ?_
      rotate_left
      next => (intro w hSw; (try dsimp only at hSw); go_simp; try with_reducible rfl)
      try simp only [Act.put, List.setIfInBounds_toArray, List.set_cons_zero, List.set_cons_succ]
      refine take_at (i := 6) (oi := _) (d := some 44) (v := ?_) rfl rfl (by kernel_rfl) (by kernel_rfl) (by kernel_rfl) (fun _ _ _ h => h) (Or.inl ⟨by rfl, ?_⟩) hHeld ?_
      rotate_left
      next => (intro w hSw; (try dsimp only at hSw); go_simp; try with_reducible rfl)
      try simp only [Act.put, List.setIfInBounds_toArray, List.set_cons_zero, List.set_cons_succ]
      refine wpAnyH_ready (rs := [7]) (by kernel_rfl) (by simp) (AllReadyH.cons (o := { dst := some 45, op := Op.call { callee := Callee.builtin Builtin.copy, args := #[Operand.tmp 41, Operand.tmp 44], argTypes := #[27, 27] }, type := 3, pos := "slices.go:528", after := #[{ on := 3, ground := Ground.data }, { on := 6, ground := Ground.data }], guard := none }) rfl (fun K hK => ?_) AllReadyH.nil)
      refine step_copy_splice (by rfl) (.tmp 41) (.tmp 44) 27 27 (by rfl) 3 Tryd.underlying27 hsz (some ⟨w.heap.size, k, none⟩) (some ⟨w.heap.size, 0, none⟩) (n - k) (n - k) k n (by rfl) (by rfl) w.heap.size k cu 3 HGK.out (List.replicate m (Value.int .i64 v)) (by rw [List.length_replicate]; exact HM1.out.symm) (fun _ => ⟨rfl, _, rfl, HS2.out⟩) (by rw [List.length_replicate]; have := HCL.out; omega) (by intro u hu; rw [List.eq_of_mem_replicate hu]; rfl) w.heap.size w HB.out.drew (Nat.le_refl _) ?_
      intro w4 hg4 hb4
      refine hK.out _ _ hb4 (fun hHeld => ?_)
      clear hK K
      have hlenr : (List.replicate m (Value.int .i64 v)).length = m := List.length_replicate
      rw [hlenr]
      try simp only [Act.put, List.setIfInBounds_toArray, List.set_cons_zero, List.set_cons_succ]
      refine take_at (i := 8) (oi := _) (d := some 46) (v := ?_) rfl rfl (by kernel_rfl) (by kernel_rfl) (by kernel_rfl) (fun _ _ _ h => h) (Or.inl ⟨by rfl, ?_⟩) hHeld ?_
      rotate_left
      next => (intro w hSw; (try dsimp only at hSw); go_simp; try with_reducible rfl)
      try simp only [Act.put, List.setIfInBounds_toArray, List.set_cons_zero, List.set_cons_succ]
      refine take_at (i := 9) (oi := _) (d := some 8) (v := ?_) rfl rfl (by kernel_rfl) (by kernel_rfl) (by kernel_rfl) (fun _ _ _ h => h) (Or.inl ⟨by rfl, ?_⟩) hHeld ?_
      rotate_left
      next => (intro w hSw; (try dsimp only at hSw); go_simp; try with_reducible rfl)
      try simp only [Act.put, List.setIfInBounds_toArray, List.set_cons_zero, List.set_cons_succ]
      refine wpAnyH_done (by kernel_rfl) ?_ _
      have hlen4 : (splice cu k (List.replicate m (Value.int .i64 v))).length = n := by rw [length_splice _ _ _ (by rw [hlenr]; have := HCL.out; omega)]; exact HCL.out
      have HG4 : Hid (∃ cu : List Value, w4.heap[w.heap.size]? = some (.cells cu.toArray 3 (0, 0)) ∧ cu.length = n ∧ ∀ j, j < k + m → cu[j]? = some (.int .i64 v)) := Lib.hid ⟨_, hg4.out, hlen4, splice_rep HCU.out (by have := HCL.out; omega)⟩
      have HB4 := Lib.hid hb4
      clear hlen4 hg4 hb4
      go_wp2_with fail
      go_roundw
      case rel => exact ⟨k + m, by omega, by omega, by go_num, HG4.out, HB4.out⟩
      case measure => simp [intOf]; omega
    · obtain rfl : n = k := by omega
      have HR := Lib.hid (intRow_block hgk hcu); have HB := Lib.hid hB
      clear hgk hcl hcu hB
      obtain ⟨wp, rfl⟩ : ∃ wp : World, wp = wr := ⟨_, rfl⟩
      go_wp2_with fail
      go_ret
      exact ⟨rfl, HR.out, HB.out⟩
end Go.Proofs.YtiogfohjepobkaaDoor

namespace Go.Proofs.YtiogfohjepobkaaDoor

/-- There is a way of d steps from note i to the last one. -/
def Wk (J : Nat → Nat → Bool) (n tz : Nat) : Nat → Nat → Prop
  | 0, i => i = tz
  | d + 1, i => ∃ k, k < n ∧ J i k = true ∧ Wk J n tz d k
/-- d steps are the fewest from note i to the last one. -/
def Least (J : Nat → Nat → Bool) (n tz d i : Nat) : Prop := Wk J n tz d i ∧ ∀ d', d' < d → ¬ Wk J n tz d' i
/-- How far each note is from the last one. -/
def FarOk (J : Nat → Nat → Bool) (n tz : Nat) (far : Nat → Int) : Prop := ∀ i, i < n → (far i = -1 ∧ ∀ d, ¬ Wk J n tz d i) ∨ ∃ d : Nat, far i = (d : Int) ∧ Least J n tz d i

/-- Between two rounds: what has been labelled, and what waits. -/
structure Bfs (J : Nat → Nat → Bool) (n tz : Nat) (far : Nat → Int) (q : List Nat) : Prop where
  root : 0 ≤ far tz
  lab : ∀ i, i < n → far i = -1 ∨ ∃ d : Nat, far i = (d : Int) ∧ Least J n tz d i
  qin : ∀ x ∈ q, x < n ∧ 0 ≤ far x
  sorted : q.Pairwise (fun a b => far a ≤ far b)
  top : ∀ x ∈ q, ∀ y, y < n → far y ≤ far x + 1
  closed : ∀ k, k < n → 0 ≤ far k → k ∉ q → ∀ i, i < n → J i k = true → 0 ≤ far i
  low : ∀ k, k < n → 0 ≤ far k → k ∉ q → ∀ x ∈ q, far k ≤ far x
/-- A label. -/
def setF (far : Nat → Int) (i : Nat) (x : Int) : Nat → Int := fun j => if j = i then x else far j
theorem setF_same (far : Nat → Int) (i : Nat) (x : Int) : setF far i x i = x := if_pos rfl
theorem setF_other {far : Nat → Int} {i j : Nat} {x : Int} (h : j ≠ i) : setF far i x j = far j := if_neg h

theorem bfs_start {J : Nat → Nat → Bool} {n tz : Nat} (hto : tz < n) : Bfs J n tz (setF (fun _ => -1) tz 0) [tz] := by
  refine ⟨by rw [setF_same]; omega, fun i hi => ?_, fun x hx => ?_, List.pairwise_singleton _ _, fun x hx y hy => ?_, fun k hk h hkq => ?_, fun k hk h hkq => ?_⟩
  · by_cases e : i = tz
    · subst e; exact .inr ⟨0, by rw [setF_same]; rfl, rfl, fun d' h => by omega⟩
    · exact .inl (setF_other e)
  · obtain rfl := List.mem_singleton.1 hx
    exact ⟨hto, by rw [setF_same]; omega⟩
  · obtain rfl := List.mem_singleton.1 hx
    rw [setF_same]
    by_cases e : y = x
    · subst e; rw [setF_same]; omega
    · rw [setF_other e]; omega
  all_goals
    have e : k ≠ tz := fun e => hkq (by rw [e]; exact List.mem_singleton.2 rfl)
    rw [setF_other e] at h; omega
/-- All notes that are no farther than the one at hand are labelled. -/
theorem Bfs.complete {J : Nat → Nat → Bool} {n tz : Nat} {far : Nat → Int} {k : Nat} {q : List Nat} (h : Bfs J n tz far (k :: q)) : ∀ (e : Nat), (e : Int) ≤ far k → ∀ x, x < n → Wk J n tz e x → 0 ≤ far x
  | 0, _, x, _, hw => by rw [show x = tz from hw]; exact h.root
  | e + 1, he, x, hx, hw => by
    obtain ⟨k', hk', hj, hw'⟩ := hw
    have hl := h.complete e (by omega) k' hk' hw'
    rcases h.lab k' hk' with h1 | ⟨d, h1, h2⟩
    · omega
    · have hde : d ≤ e := by
        rcases Nat.lt_or_ge e d with h3 | h3
        · exact (h2.2 e h3 hw').elim
        · exact h3
      refine h.closed k' hk' hl (fun hm => ?_) x hx hj
      rcases List.mem_cons.1 hm with rfl | hm
      · omega
      · have := (List.pairwise_cons.1 h.sorted).1 k' hm
        omega
/-- A note is labelled and set in the queue. -/
theorem Bfs.label {J : Nat → Nat → Bool} {n tz : Nat} {far : Nat → Int} {k i : Nat} {q : List Nat} (h : Bfs J n tz far (k :: q)) (hi : i < n) (hf : far i < 0) (hj : J i k = true) : Bfs J n tz (setF far i (far k + 1)) (k :: q ++ [i]) := by
  have hk := h.qin k List.mem_cons_self
  have hne : ∀ x, 0 ≤ far x → x ≠ i := fun x hx e => by subst e; omega
  have hfk : setF far i (far k + 1) k = far k := setF_other (hne k hk.2)
  have hq : ∀ x ∈ k :: q, setF far i (far k + 1) x = far x := fun x hx => setF_other (hne x (h.qin x hx).2)
  have hmin : ∀ d' : Nat, (d' : Int) ≤ far k → ¬ Wk J n tz d' i := fun d' hd hw => by have := h.complete d' hd i hi hw; omega
  refine ⟨?_, fun x hx => ?_, fun x hx => ?_, ?_, fun x hx y hy => ?_, fun k' hk' h0 hkq x hx hjx => ?_, fun k' hk' h0 hkq x hx => ?_⟩
  · rw [setF_other (hne tz h.root)]; exact h.root
  · by_cases e : x = i
    · subst e
      rw [setF_same]
      rcases h.lab k hk.1 with h1 | ⟨d, h1, h2⟩
      · omega
      · exact .inr ⟨d + 1, by omega, ⟨k, hk.1, hj, h2.1⟩, fun d' hd' => hmin d' (by omega)⟩
    · rw [setF_other e]; exact h.lab x hx
  · rcases List.mem_append.1 hx with hx | hx
    · rw [hq x hx]; exact h.qin x hx
    · obtain rfl := List.mem_singleton.1 hx
      rw [setF_same]; exact ⟨hi, by omega⟩
  · rw [List.pairwise_append]
    refine ⟨h.sorted.imp_of_mem fun {a b} ha hb hab => by rw [hq a ha, hq b hb]; exact hab, List.pairwise_singleton _ _, fun a ha b hb => ?_⟩
    obtain rfl := List.mem_singleton.1 hb
    rw [setF_same, hq a ha]
    exact h.top k List.mem_cons_self a (h.qin a ha).1
  · have hle : far k ≤ setF far i (far k + 1) x := by
      rcases List.mem_append.1 hx with hx | hx
      · rw [hq x hx]
        rcases List.mem_cons.1 hx with rfl | hx
        · exact Int.le_refl _
        · exact (List.pairwise_cons.1 h.sorted).1 x hx
      · obtain rfl := List.mem_singleton.1 hx
        rw [setF_same]; omega
    by_cases e : y = i
    · subst e; rw [setF_same]; omega
    · rw [setF_other e]
      have := h.top k List.mem_cons_self y hy
      omega
  · have e : k' ≠ i := fun e => hkq (by rw [e]; exact List.mem_append_right _ (List.mem_singleton.2 rfl))
    rw [setF_other e] at h0
    have := h.closed k' hk' h0 (fun hm => hkq (List.mem_append_left _ hm)) x hx hjx
    by_cases e2 : x = i
    · subst e2; rw [setF_same]; omega
    · rw [setF_other e2]; exact this
  · have e : k' ≠ i := fun e => hkq (by rw [e]; exact List.mem_append_right _ (List.mem_singleton.2 rfl))
    rw [setF_other e] at h0 ⊢
    have hl := h.low k' hk' h0 (fun hm => hkq (List.mem_append_left _ hm))
    rcases List.mem_append.1 hx with hx | hx
    · rw [hq x hx]; exact hl x hx
    · obtain rfl := List.mem_singleton.1 hx
      rw [setF_same]
      have := hl k List.mem_cons_self
      omega
/-- The note at hand is done. -/
theorem Bfs.pop {J : Nat → Nat → Bool} {n tz : Nat} {far : Nat → Int} {k : Nat} {q : List Nat} (h : Bfs J n tz far (k :: q)) (hd : ∀ i, i < n → J i k = true → 0 ≤ far i) : Bfs J n tz far q := by
  refine ⟨h.root, h.lab, fun x hx => h.qin x (List.mem_cons_of_mem _ hx), (List.pairwise_cons.1 h.sorted).2, fun x hx => h.top x (List.mem_cons_of_mem _ hx), fun k' hk' h0 hkq => ?_, fun k' hk' h0 hkq x hx => ?_⟩
  · by_cases e : k' = k
    · subst e; exact hd
    · exact h.closed k' hk' h0 (fun hm => by rcases List.mem_cons.1 hm with h1 | h1; exact e h1; exact hkq h1)
  · by_cases e : k' = k
    · subst e; exact (List.pairwise_cons.1 h.sorted).1 x hx
    · exact h.low k' hk' h0 (fun hm => by rcases List.mem_cons.1 hm with h1 | h1; exact e h1; exact hkq h1) x (List.mem_cons_of_mem _ hx)
/-- When nothing waits, all is labelled that can be. -/
theorem Bfs.done {J : Nat → Nat → Bool} {n tz : Nat} {far : Nat → Int} (h : Bfs J n tz far []) : FarOk J n tz far := by
  have hall : ∀ (d : Nat) x, x < n → Wk J n tz d x → 0 ≤ far x := by
    intro d
    induction d with
    | zero => intro x _ hw; rw [show x = tz from hw]; exact h.root
    | succ d ih =>
      intro x hx hw
      obtain ⟨k, hk, hj, hw'⟩ := hw
      exact h.closed k hk (ih k hk hw') (by simp) x hx hj
  intro i hi
  rcases h.lab i hi with h1 | h1
  · exact .inl ⟨h1, fun d hw => by have := hall d i hi hw; omega⟩
  · exact .inr h1
/-- How many notes bear no label. -/
def unl (far : Nat → Int) : Nat → Nat
  | 0 => 0
  | j + 1 => unl far j + if far j < 0 then 1 else 0
theorem unl_congr {far far' : Nat → Int} : ∀ n, (∀ j, j < n → far j = far' j) → unl far n = unl far' n
  | 0, _ => rfl
  | n + 1, h => by simp only [unl]; rw [unl_congr n (fun j hj => h j (by omega)), h n (by omega)]
theorem unl_set {far : Nat → Int} {i : Nat} {x : Int} (hf : far i < 0) (hx : 0 ≤ x) : ∀ n, unl (setF far i x) n + (if i < n then 1 else 0) = unl far n
  | 0 => by simp [unl]
  | n + 1 => by
    have ih := unl_set hf hx n
    simp only [unl]
    by_cases e : n = i
    · subst e
      rw [setF_same, if_neg (by omega), if_pos hf, if_pos (by omega)]
      rw [if_neg (by omega)] at ih
      omega
    · rw [setF_other e]
      by_cases h : i < n
      · rw [if_pos h] at ih; rw [show (if i < n + 1 then 1 else 0) = 1 from if_pos (by omega)]; omega
      · rw [if_neg h] at ih; rw [show (if i < n + 1 then 1 else 0) = 0 from if_neg (by omega)]; omega
theorem unl_le (far : Nat → Int) (n : Nat) : unl far n ≤ n := by
  induction n with
  | zero => exact Nat.le_refl _
  | succ n ih => simp only [unl]; split <;> omega
end Go.Proofs.YtiogfohjepobkaaDoor

namespace Go.Proofs.YtiogfohjepobkaaDoor
open Go.RowKit

/-- The value v holds the numbers of l, in a block of the call's own that is not block F. -/
structure QAt (base F : Nat) (W : World) (g off cap : Nat) (l : List Nat) : Prop where
  base : base ≤ g
  far : g ≠ F
  lt : g < W.heap.size
  le : l.length ≤ cap
  max : cap ≤ maxLen
  cell : ∀ (j x : Nat), l[j]? = some x → W.cell? ⟨g, off + j, none⟩ = some (.int .i64 (x : Int))
  room : ∀ j, j < cap → (W.cell? ⟨g, off + j, none⟩).isSome = true
  froz : ∀ o, W.frozen? ⟨g, o, none⟩ = false
def QIn (base F : Nat) (W : World) (v : Value) (l : List Nat) : Prop := ∃ g off cap, v = .slice (some ⟨g, off, none⟩) l.length cap ∧ QAt base F W g off cap l
theorem QAt.keep {base F : Nat} {W W' : World} {g off cap : Nat} {l : List Nat} (h : QAt base F W g off cap l) (k : Gr W W') : QAt base F W' g off cap l :=
  ⟨h.base, h.far, Nat.lt_of_lt_of_le h.lt k.le, h.le, h.max, fun j x e => (Below.cell (p := ⟨g, off + j, none⟩) k h.lt).trans (h.cell j x e), fun j hj => by rw [Below.cell (p := ⟨g, off + j, none⟩) k h.lt]; exact h.room j hj, fun o => (Below.frozen (p := ⟨g, o, none⟩) k h.lt).trans (h.froz o)⟩
theorem QIn.keep {base F : Nat} {W W' : World} {v : Value} {l : List Nat} (h : QIn base F W v l) (k : Gr W W') : QIn base F W' v l := by
  obtain ⟨g, off, cap, e, hq⟩ := h
  exact ⟨g, off, cap, e, hq.keep k⟩
/-- A store into block F. -/
theorem QIn.store {base F : Nat} {W : World} {v : Value} {l : List Nat} (h : QIn base F W v l) (o : Nat) (x : Value) : QIn base F (W.setCell ⟨F, o, none⟩ x) v l := by
  obtain ⟨g, off, cap, e, hq⟩ := h
  have k : ∀ o', (W.setCell ⟨F, o, none⟩ x).cell? ⟨g, o', none⟩ = W.cell? ⟨g, o', none⟩ := fun o' => World.cell?_setCell_other _ _ _ _ (fun e => hq.far (congrArg Addr.block e).symm)
  exact ⟨g, off, cap, e, hq.base, hq.far, by simpa using hq.lt, hq.le, hq.max, fun j y e => (k _).trans (hq.cell j y e), fun j hj => by rw [k]; exact hq.room j hj, fun o => by rw [World.frozen?_setCell]; exact hq.froz o⟩
theorem QIn.len {base F : Nat} {W : World} {v : Value} {l : List Nat} (h : QIn base F W v l) : ∃ A c, v = .slice A l.length c := by
  obtain ⟨g, off, cap, e, _⟩ := h
  exact ⟨_, _, e⟩
theorem qin_new {base F : Nat} {W W' : World} {e : TypeId} {n : Nat} {v : Value} {l : List Nat} (hn : n = l.length) (hpos : 0 < n) (h : W'.ownsRow W.heap.size e 1 v n (l.map fun x : Nat => Value.int .i64 (x : Int))) (hb : base ≤ W.heap.size) (hF : F < W.heap.size) : QIn base F W' v l := by
  subst hn
  rcases h.2 with ⟨_, h0⟩ | ⟨g, cap, cur, rfl, hbg, hg, h1, h2, h3, h4⟩
  · omega
  · refine ⟨g, 0, cap, rfl, by omega, by omega, (Array.getElem?_eq_some_iff.1 hg).1, h1, h2, fun j x hj => ?_, fun j hj => ?_, fun o => by simp [World.frozen?, hg]⟩
    · have := h.cells (g := g) rfl j (.int .i64 (x : Int)) (by simp [hj])
      rw [Addr.add_lit] at this
      exact this
    · simp only [Nat.zero_add, World.cell?, hg, Nat.mul_one] at h3 ⊢
      have : j < cur.size := by omega
      simp [Array.getElem?_eq_getElem this]
/-- One number more. -/
theorem run_append_q {base F : Nat} {W : World} {v : Value} {l : List Nat} {x : Nat} {A : Addr} {c : Nat} {i : TypeInfo} (t ty e : TypeId) (ht : Tryd.prog.underlying t = some (.slice e)) (hi : Tryd.prog.info? e = some i) (hz : i.zero = some (.int .i64 0)) (hs : i.size = 1) (hby : i.bytes = 8)
    (h : QIn base F W v l) (hb : base ≤ W.heap.size) (hF : F < W.heap.size) (hl : l.length ≤ 400) (hA : W.cell? A = some (.int .i64 (x : Int))) :
    ∃ v' W', (Builtin.append_ #[t, t] ty #[v, .slice (some A) 1 c]).run Tryd.prog W = .ok v' W' ∧ QIn base F W' v' (l ++ [x]) ∧ Below base W W' ∧ (∀ o, W'.cell? ⟨F, o, none⟩ = W.cell? ⟨F, o, none⟩) ∧ (∀ o, W'.frozen? ⟨F, o, none⟩ = W.frozen? ⟨F, o, none⟩) := by
  obtain ⟨g, off, cap, rfl, hq⟩ := h
  have hnews : ∀ j u, [Value.int .i64 (x : Int)][j]? = some u → W.cell? (A.add j) = some u := by
    intro j u hj
    match j, hj with
    | 0, hj => simp at hj; subst hj; exact hA
  by_cases hroom : l.length + 1 ≤ cap
  · have hr := run_append_room_cells (P := Tryd.prog) W t ty e i ht hi g off l.length cap A 1 c [.int .i64 (x : Int)] (by rw [hs]; rfl) hnews (by simp [Value.oneCell']) hroom
      (fun j hj => by obtain rfl : j = 0 := by simpa using hj
                      rw [hs, Nat.mul_one, Nat.add_zero]; exact hq.room _ (by omega)) (fun j _ => hq.froz _)
    rw [hs, Nat.mul_one] at hr
    have hcell := hq.room l.length (by omega)
    have hset : W.setCells g (off + l.length) [.int .i64 (x : Int)] = W.setCell ⟨g, off + l.length, none⟩ (.int .i64 (x : Int)) := rfl
    rw [hset] at hr
    have other : ∀ b o, (⟨b, o, none⟩ : Addr) ≠ ⟨g, off + l.length, none⟩ → (W.setCell ⟨g, off + l.length, none⟩ (.int .i64 (x : Int))).cell? ⟨b, o, none⟩ = W.cell? ⟨b, o, none⟩ := fun b o hne => World.cell?_setCell_other _ _ _ _ (fun e => hne e.symm)
    refine ⟨_, _, hr, ⟨g, off, cap, by simp, hq.base, hq.far, by simpa using hq.lt, by simpa using hroom, hq.max, fun j y hj => ?_, fun j hj => ?_, fun o => by rw [World.frozen?_setCell]; exact hq.froz o⟩, (Below.refl _ _).setCell hq.base _, fun o => other F o (fun e => hq.far (congrArg Addr.block e).symm), fun o => World.frozen?_setCell _ _ _ _⟩
    · by_cases e : j = l.length
      · subst e
        simp at hj; subst hj
        exact World.cell?_setCell_same' _ _ _ hcell
      · have hlt : j < l.length := by
          have := (List.getElem?_eq_some_iff.1 hj).1
          simp at this; omega
        rw [List.getElem?_append_left hlt] at hj
        rw [other g _ (fun e' => e (by have := congrArg Addr.off e'; simp at this; omega))]
        exact hq.cell j y hj
    · by_cases e : j = l.length
      · subst e; rw [World.cell?_setCell_same' _ _ _ hcell]; rfl
      · rw [other g _ (fun e' => e (by have := congrArg Addr.off e'; simp at this; omega))]
        exact hq.room j hj
  · have hg := run_append_arg_grows (P := Tryd.prog) W t ty e i (.int .i64 0) 1 8 ht hi hz hs hby rfl (by omega) ⟨g, off, none⟩ l.length cap (l.map fun x : Nat => Value.int .i64 (x : Int)) (by simp)
      (fun j u hj => by
        rw [List.getElem?_map, Option.map_eq_some_iff] at hj
        obtain ⟨y, hy, rfl⟩ := hj
        rw [Addr.add_lit]; exact hq.cell j y hy) A 1 c [.int .i64 (x : Int)] (by simp) hnews (by omega) (by simp only [maxLen]; omega) (by omega)
    obtain ⟨v', W', h1, h2, h3⟩ := hg
    have hb' : Gr W W' := (Below.refl _ _).grown h3 (Nat.le_refl _) (fun _ e => by cases e)
    refine ⟨v', W', h1, qin_new (n := l.length + 1) (l := l ++ [x]) (by simp) (by omega) (by simpa using h2) hb hF, Below.mono hb' hb, fun o => Below.cell (p := ⟨F, o, none⟩) hb' hF, fun o => Below.frozen (p := ⟨F, o, none⟩) hb' hF⟩
/-- At the operation, for the walk. -/
theorem wpList_append_q {W : World} {ops : Array Oper} {rest : List Oper} {o : Oper} {a : Act} {Q : Exit → Act → World → Prop} {base F : Nat} {v : Value} {l : List Nat} {x : Nat} {A : Addr} {c : Nat} {i : TypeInfo} (hgd : o.guard = none) (s y : Operand) (t e : TypeId)
    (hop : o.op = Op.call { callee := Callee.builtin Builtin.append, args := #[s, y], argTypes := #[t, t] }) (ht : Tryd.prog.underlying t = some (.slice e)) (hi : Tryd.prog.info? e = some i) (hz : i.zero = some (.int .i64 0)) (hs : i.size = 1) (hby : i.bytes = 8)
    (hsv : a.eval s = v) (hyv : a.eval y = .slice (some A) 1 c) (h : QIn base F W v l) (hb : base ≤ W.heap.size) (hF : F < W.heap.size) (hl : l.length ≤ 400) (hA : W.cell? A = some (.int .i64 (x : Int)))
    (hK : ∀ v' W', QIn base F W' v' (l ++ [x]) → Below base W W' → (∀ o, W'.cell? ⟨F, o, none⟩ = W.cell? ⟨F, o, none⟩) → (∀ o, W'.frozen? ⟨F, o, none⟩ = W.frozen? ⟨F, o, none⟩) → wpList Tryd.prog ops Q rest (a.put o.dst v') W') :
    wpList Tryd.prog ops Q (o :: rest) a W := by
  refine wpList_plain hgd fun K hK' => ?_
  obtain ⟨v', W', hrun, h1, h2, h3, h4⟩ := run_append_q t o.type e ht hi hz hs hby h hb hF hl hA (c := c)
  unfold Oper.wp
  simp [execOp, hop, resolve, invoke, builtin, hsv, hyv, hrun, Result.andThen]
  exact hK' _ _ (hK v' W' h1 h2 h3 h4)
end Go.Proofs.YtiogfohjepobkaaDoor

namespace Go.Proofs.YtiogfohjepobkaaDoor
open Go.RowKit

/-- Between two rounds. -/
structure DS (J : Nat → Nat → Bool) (n tz base F : Nat) (w : World) (far : Nat → Int) (q : List Nat) (qv : Value) (wr : World) : Prop where
  queue : QIn base F wr qv q
  row : IntRow wr F n far
  bfs : Bfs J n tz far q
  gr : Gr w wr
  cnt : q.length + unl far n ≤ n
  bd : ∀ y, y < n → far y + (unl far n : Int) + 1 ≤ n
theorem DS.keep {J : Nat → Nat → Bool} {n tz base F : Nat} {w : World} {far : Nat → Int} {q : List Nat} {qv : Value} {W W' : World} (h : DS J n tz base F w far q qv W) (k : Gr W W') : DS J n tz base F w far q qv W' :=
  ⟨h.queue.keep k, h.row.keep k, h.bfs, h.gr.trans k, h.cnt, h.bd⟩
/-- What distances returns. -/
def DistP (J : Nat → Nat → Bool) (n tz : Nat) (w : World) (e : Ending) (w' : World) : Prop := ∃ (F : Nat) (far : Nat → Int), e = .returned (.slice (some ⟨F, 0, none⟩) n n) ∧ IntRow w' F n far ∧ FarOk J n tz far ∧ (∀ y, y < n → far y + 1 ≤ (n : Int)) ∧ w.heap.size ≤ F ∧ Gr w w'
theorem unl_start {n tz : Nat} (hto : tz < n) : unl (setF (fun _ => -1) tz 0) n + 1 = n := by
  have h := unl_set (far := fun _ => -1) (i := tz) (x := 0) (by omega) (by omega) n
  rw [if_pos hto] at h
  have h2 : ∀ m, unl (fun _ => -1) m = m := fun m => by induction m with
    | zero => rfl
    | succ m ih => simp only [unl]; rw [ih]; simp
  rw [h2] at h
  exact h
theorem cell_one_at (w : World) (x : Value) (t : TypeId) : (w.alloc (.cells #[x] t)).cell? ⟨w.heap.size, 0, none⟩ = some x := by simp [go_sem]
theorem ds_start {J : Nat → Nat → Bool} {n tz base F : Nat} {w W : World} (hto : tz < n) (hr : IntRow W F n (fun _ => -1)) (hg : Gr w W) (hb : base ≤ W.heap.size) (T : TypeId) (hbF : w.heap.size ≤ F) :
    DS J n tz base F w (setF (fun _ => -1) tz 0) [tz] (.slice (some ⟨W.heap.size, 0, none⟩) 1 1) ((W.setCell ⟨F, tz, none⟩ (.int .i64 0)).alloc (.cells #[.int .i64 (tz : Int)] T)) := by
  have h1 := unl_start hto
  have hF := hr.lt
  refine ⟨⟨W.heap.size, 0, 1, rfl, hb, by omega, by simp, Nat.le_refl _, by simp [maxLen], fun j x hj => ?_, fun j hj => ?_, fun o => ?_⟩, ((hr.store hto 0).keep ((Gr.refl _).alloc _)).congr (fun j _ => rfl), bfs_start hto, (hg.setCell hbF _).alloc _, by simp only [List.length_singleton]; omega, fun y hy => ?_⟩
  · match j, hj with
    | 0, hj => simp at hj; subst hj; have := cell_one_at (W.setCell ⟨F, tz, none⟩ (.int .i64 0)) (.int .i64 (tz : Int)) T; rwa [World.size_setCell] at this
  · obtain rfl : j = 0 := by omega
    have := cell_one_at (W.setCell ⟨F, tz, none⟩ (.int .i64 0)) (.int .i64 (tz : Int)) T
    rw [World.size_setCell] at this
    rw [Nat.add_zero, this]; rfl
  · simp [go_sem]
  · have : setF (fun _ => -1) tz 0 y ≤ 0 := by simp only [setF]; split <;> omega
    omega
/-- How many cells of block F bear no label. -/
def unlW (W : World) (F n : Nat) : Nat := unl (fun j => match W.cell? ⟨F, j, none⟩ with
  | some (.int _ x) => x
  | _ => 0) n
theorem IntRow.unlW {W : World} {F n : Nat} {far : Nat → Int} (h : IntRow W F n far) : YtiogfohjepobkaaDoor.unlW W F n = unl far n := by
  unfold YtiogfohjepobkaaDoor.unlW
  exact unl_congr n (fun j hj => by rw [h.cell j hj])
def lenQ : Value → Nat
  | .slice _ n _ => n
  | _ => 0
theorem DS.meas {J : Nat → Nat → Bool} {n tz base F : Nat} {w : World} {far : Nat → Int} {q : List Nat} {qv : Value} {W : World} (h : DS J n tz base F w far q qv W) : lenQ qv + YtiogfohjepobkaaDoor.unlW W F n = q.length + unl far n := by
  obtain ⟨A, c, e⟩ := h.queue.len
  rw [e, h.row.unlW]; rfl
/-- A note has been labelled and appended. -/
theorem DS.label {J : Nat → Nat → Bool} {n tz base F : Nat} {w : World} {far : Nat → Int} {k i : Nat} {q : List Nat} {qv v' : Value} {W W' : World} {T : TypeId} (h : DS J n tz base F w far (k :: q) qv W) (hi : i < n) (hf : far i < 0) (hj : J i k = true) (hbF : w.heap.size ≤ F) (hwb : w.heap.size ≤ base)
    (hq : QIn base F W' v' (k :: q ++ [i])) (hb : Below base ((W.setCell ⟨F, i, none⟩ (.int .i64 (far k + 1))).alloc (.cells #[.int .i64 (i : Int)] T)) W')
    (hc : ∀ o, W'.cell? ⟨F, o, none⟩ = ((W.setCell ⟨F, i, none⟩ (.int .i64 (far k + 1))).alloc (.cells #[.int .i64 (i : Int)] T)).cell? ⟨F, o, none⟩) (hfz : ∀ o, W'.frozen? ⟨F, o, none⟩ = ((W.setCell ⟨F, i, none⟩ (.int .i64 (far k + 1))).alloc (.cells #[.int .i64 (i : Int)] T)).frozen? ⟨F, o, none⟩) :
    DS J n tz base F w (setF far i (far k + 1)) (k :: q ++ [i]) v' W' ∧ (k :: q ++ [i]).length + unl (setF far i (far k + 1)) n = (k :: q).length + unl far n := by
  have hk := (h.bfs.qin k List.mem_cons_self)
  have hu := unl_set (far := far) (i := i) (x := far k + 1) hf (by omega) n
  rw [if_pos hi] at hu
  have hcnt := h.cnt
  have hr := ((h.row.store hi (far k + 1)).keep ((Gr.refl _).alloc (.cells #[.int .i64 (i : Int)] T)))
  have hbk := h.bd k hk.1
  refine ⟨⟨hq, ⟨Nat.lt_of_lt_of_le hr.lt hb.size, fun o => (hfz o).trans (hr.froz o), fun j hj' => (hc j).trans (hr.cell j hj')⟩, h.bfs.label hi hf hj, Below.trans ((h.gr.setCell hbF _).alloc _) (Below.mono hb hwb), ?_, fun y hy => ?_⟩, ?_⟩
  · rw [List.length_append, List.length_singleton]; omega
  · have := h.bd y hy
    by_cases e : y = i
    · subst e; rw [setF_same]; omega
    · rw [setF_other e]; omega
  · rw [List.length_append, List.length_singleton]; omega
theorem tfq (b : Bool) : b = true ∨ b = false := by cases b <;> simp
theorem closed_no {J : Nat → Nat → Bool} {far : Nat → Int} {i k : Nat} (h : ∀ i', i' < i → J i' k = true → 0 ≤ far i') (hi : J i k = true → 0 ≤ far i) : ∀ i', i' < i + 1 → J i' k = true → 0 ≤ far i' := by
  intro i' h1 h2
  by_cases e : i' = i
  · subst e; exact hi h2
  · exact h i' (by omega) h2
theorem closed_yes {J : Nat → Nat → Bool} {far : Nat → Int} {i k : Nat} (h : ∀ i', i' < i → J i' k = true → 0 ≤ far i') (h0 : 0 ≤ far k) : ∀ i', i' < i + 1 → J i' k = true → 0 ≤ setF far i (far k + 1) i' := by
  intro i' h1 h2
  by_cases e : i' = i
  · subst e; rw [setF_same]; omega
  · rw [setF_other e]; exact h i' (by omega) h2
/-- The note at hand is done. -/
theorem DS.pop {J : Nat → Nat → Bool} {n tz base F : Nat} {w : World} {far : Nat → Int} {k g off cap : Nat} {q : List Nat} {W : World} (h : DS J n tz base F w far (k :: q) (.slice (some ⟨g, off, none⟩) (k :: q).length cap) W) (hq : QAt base F W g off cap (k :: q)) (hd : ∀ i, i < n → J i k = true → 0 ≤ far i) :
    (cap = 1 → DS J n tz base F w far q (.slice (some ⟨g, off, none⟩) q.length (cap - 1)) W) ∧ (¬ cap = 1 → DS J n tz base F w far q (.slice (some ⟨g, off + 1, none⟩) q.length (cap - 1)) W) := by
  have hle := hq.le
  have hmax := hq.max
  simp only [List.length_cons] at hle
  have hcnt := h.cnt
  simp only [List.length_cons] at hcnt
  refine ⟨fun hc => ⟨⟨g, off, cap - 1, rfl, hq.base, hq.far, hq.lt, by omega, by omega, fun j x hj => ?_, fun j hj => by omega, hq.froz⟩, h.row, h.bfs.pop hd, h.gr, by omega, h.bd⟩, fun hc => ⟨⟨g, off + 1, cap - 1, rfl, hq.base, hq.far, hq.lt, by omega, by omega, fun j x hj => ?_, fun j hj => ?_, hq.froz⟩, h.row, h.bfs.pop hd, h.gr, by omega, h.bd⟩⟩
  · have := (List.getElem?_eq_some_iff.1 hj).1
    omega
  · have := hq.cell (j + 1) x (by simpa using hj)
    rw [show off + 1 + j = off + (j + 1) by omega]; exact this
  · rw [show off + 1 + j = off + (j + 1) by omega]; exact hq.room (j + 1) (by omega)

set_option maxRecDepth 100000 in
set_option maxHeartbeats 8000000 in
theorem distances_any (S : Value) (J : Nat → Nat → Bool) (n tz : Nat) (w : World) (hto : tz < n) (hn : n ≤ 200) (hJ : ∀ W, Gr w W → ∀ i k, i < n → k < n → Calls Tryd.prog 42 #[S, .int .i64 (i : Int), .int .i64 (k : Int)] W fun e w' => e = .returned (.bool (J i k)) ∧ Gr W w') :
    Calls Tryd.prog 43 #[.int .i64 (n : Int), .int .i64 (tz : Int), .func (.func 42) #[S] #[]] w (DistP J n tz w) := by
  obtain ⟨i0, hi, hz0, hz1, hz2⟩ := info_parts infoI
  have HI := Lib.hid (And.intro hi (And.intro hz0 (And.intro hz1 hz2)))
  have HJ := Lib.hid hJ
  have HR := Lib.hid (fun W b h1 h2 => repeat_one b 0 1 n (-1) W h1 h2 (by omega) hn)
  clear hJ hi hz0 hz1 hz2
  go_enter Tryd.func43, Tryd.ntmps43
  go_wp2_with fail
  go_at_call 61
  refine (HR.out _ _ (by simp) (by simp [go_sem])).mono ?_
  rintro e w1 ⟨rfl, hrow, hb⟩
  have hg : Gr w w1 := ((Gr.refl w).alloc _).trans hb
  have hz := hb.le
  simp only [World.size_alloc] at hz hrow
  have hc := hrow.cell tz hto
  have hf := hrow.froz tz
  have HDS := Lib.hid (ds_start (J := J) (base := w.heap.size) (F := w.heap.size + 1) hto hrow hg (by omega) 3 (by omega))
  clear hrow hb hg
  go_wp2_with fail
  clear hc hf hz
  go_loopw [8] (fun qv wr => ∃ (far : Nat → Int) (q : List Nat), DS J n tz w.heap.size (w.heap.size + 1) w far q qv wr) (fun qv wr => lenQ qv + unlW wr (w.heap.size + 1) n)
  case atStart => exact ⟨_, _, HDS.out⟩
  case round =>
    obtain ⟨far, q, hds⟩ := hrel
    clear HDS
    cases q with
    | nil =>
      obtain ⟨g, off, cap, rfl, hq⟩ := hds.queue
      have HBD := Lib.hid (show ∀ y, y < n → far y + 1 ≤ (n : Int) from fun y hy => by have := hds.bd y hy; omega)
      have HR2 := Lib.hid hds.row; have HF := Lib.hid hds.bfs.done; have HG2 := Lib.hid hds.gr
      clear hds hq
      obtain ⟨wp, rfl⟩ : ∃ wp : World, wp = wr := ⟨_, rfl⟩
      go_wp2_with fail
      go_ret
      exact ⟨_, far, rfl, HR2.out, HF.out, HBD.out, by omega, HG2.out⟩
    | cons k rest =>
      have hmeas := hds.meas
      have hk := (hds.bfs.qin k List.mem_cons_self).1
      obtain ⟨g, off, cap, rfl, hq⟩ := hds.queue
      have hcq := hq.cell 0 k rfl
      rw [Nat.add_zero] at hcq
      have hlen := hds.cnt
      simp only [List.length_cons] at hlen
      have HDS := Lib.hid hds
      have HME := Lib.hid hmeas
      have HME0 : Hid (lenQ (.slice (some ⟨g, off, none⟩) (rest.length + 1) cap) + unlW wr (w.heap.size + 1) n = rest.length + 1 + unl far n) := Lib.hid (by simpa only [List.length_cons] using HME.out)
      clear HME
      clear hds hmeas hq
      obtain ⟨wo, rfl⟩ : ∃ wp : World, wp = wr := ⟨_, rfl⟩
      go_wp2_with fail
      go_loopw [8, 29] (fun qv iv wr => ∃ (LV : Value) (far' : Nat → Int) (rest' : List Nat) (i : Nat), LV = qv ∧ i ≤ n ∧ iv = .int .i64 (i : Int) ∧ DS J n tz w.heap.size (w.heap.size + 1) w far' (k :: rest') LV wr ∧ (∀ i', i' < i → J i' k = true → 0 ≤ far' i') ∧ (k :: rest').length + unl far' n = rest.length + 1 + unl far n) (fun _ iv _ => n - (intOf iv).toNat)
      case atStart => exact ⟨_, far, rest, 0, rfl, Nat.zero_le _, rfl, HDS.out, fun i' h => absurd h (by omega), rfl⟩
      case round =>
        obtain ⟨qv, far', rest', i, rfl, hi, rfl, hds, hcl, hme⟩ := hrel
        have HDS2 := Lib.hid hds; have HCL := Lib.hid hcl; have HME2 := Lib.hid hme
        clear hcl hme hcq HDS
        by_cases hin : i < n
        · have hci := hds.row.cell i hin
          by_cases hfar : far' i < 0
          · have hJc := HJ.out wr hds.gr i k hin hk
            have hzz := hds.gr.size
            clear hds
            rcases tfq (J i k) with hj | hj
            · rw [hj] at hJc
              have HJc := Lib.hid hJc; have HJB := Lib.hid hj
              clear hJc hj
              obtain ⟨wi, rfl⟩ : ∃ wp : World, wp = wr := ⟨_, rfl⟩
              go_wp2_with fail
              go_at_call 42
              refine HJc.out.mono ?_
              rintro e w2 ⟨rfl, hb⟩
              have hds2 := HDS2.out.keep hb
              have ck := hds2.row.cell k hk
              have ci := hds2.row.cell i hin
              have fi := hds2.row.froz i
              have hk0 := (hds2.bfs.qin k List.mem_cons_self).2
              have hk1 := hds2.bd k hk
              have hcn := hds2.cnt
              simp only [List.length_cons] at hcn
              have hrl := hds2.row.lt
              have hwr : IntKind.i64.wrap (far' k + 1) = far' k + 1 := IntWalk.i64_in _ ⟨by omega, by omega⟩
              have HQ := Lib.hid ((hds2.queue.store i (.int .i64 (far' k + 1))).keep ((Gr.refl _).alloc (.cells #[.int .i64 (i : Int)] 3)))
              have HD2 := Lib.hid hds2
              have hz2 := hb.le
              clear hb hds2 hci
              have HS1 := Lib.hid (show w.heap.size ≤ ((w2.setCell ⟨w.heap.size + 1, i, none⟩ (.int .i64 (far' k + 1))).alloc (.cells #[.int .i64 (i : Int)] 3)).heap.size by simp; omega)
              have HS2 := Lib.hid (show w.heap.size + 1 < ((w2.setCell ⟨w.heap.size + 1, i, none⟩ (.int .i64 (far' k + 1))).alloc (.cells #[.int .i64 (i : Int)] 3)).heap.size by simp; omega)
              have HS3 := Lib.hid (show (k :: rest').length ≤ 400 by simp only [List.length_cons]; omega)
              have HS4 := Lib.hid (show ((w2.setCell ⟨w.heap.size + 1, i, none⟩ (.int .i64 (far' k + 1))).alloc (.cells #[.int .i64 (i : Int)] 3)).cell? ⟨w2.heap.size, 0, none⟩ = some (.int .i64 (i : Int)) by have := cell_one_at (w2.setCell ⟨w.heap.size + 1, i, none⟩ (.int .i64 (far' k + 1))) (.int .i64 (i : Int)) 3; rwa [World.size_setCell] at this)
              go_wp2_with (at_builtin; refine wpList_append_q (base := w.heap.size) (F := w.heap.size + 1) (v := qv) (l := k :: rest') (x := i) (A := ⟨w2.heap.size, 0, none⟩) (c := 1) (i := i0) rfl (.tmp 51) (.tmp 53) 27 3 rfl Tryd.underlying27 HI.out.1 HI.out.2.1 HI.out.2.2.1 HI.out.2.2.2 rfl rfl HQ.out HS1.out HS2.out HS3.out HS4.out ?_; intro v' w3 hq3 hb3 hc3 hf3; obtain ⟨hnew, hnm⟩ := HD2.out.label hin hfar HJB.out (by omega) (Nat.le_refl _) hq3 hb3 hc3 hf3; have HNEW := Lib.hid hnew; have HNM := Lib.hid hnm; clear hq3 hb3 hc3 hf3 hnew hnm)
              go_roundw
              case rel =>
                (repeat apply Exists.intro)
                first | exact ⟨⟨_, _, rest' ++ [i], i + 1, rfl, by omega, by go_num, HNEW.out, closed_yes HCL.out hk0, HNM.out.trans HME2.out⟩, rfl⟩ | exact ⟨⟨_, rest' ++ [i], i + 1, by omega, by go_num, HNEW.out, closed_yes HCL.out hk0, HNM.out.trans HME2.out⟩, rfl⟩
              case measure => simp [intOf]; omega
            · rw [hj] at hJc
              have HJc := Lib.hid hJc; have HJB := Lib.hid hj
              clear hJc hj
              obtain ⟨wi, rfl⟩ : ∃ wp : World, wp = wr := ⟨_, rfl⟩
              go_wp2_with fail
              go_at_call 42
              refine HJc.out.mono ?_
              rintro e w2 ⟨rfl, hb⟩
              have HD2 := Lib.hid (HDS2.out.keep hb)
              clear hb hci
              go_wp2_with fail
              go_roundw
              case rel =>
                (repeat apply Exists.intro)
                first | exact ⟨⟨qv, far', rest', i + 1, rfl, by omega, by go_num, HD2.out, closed_no HCL.out (fun h => by rw [HJB.out] at h; cases h), HME2.out⟩, rfl⟩ | exact ⟨⟨far', rest', i + 1, by omega, by go_num, HD2.out, closed_no HCL.out (fun h => by rw [HJB.out] at h; cases h), HME2.out⟩, rfl⟩
              case measure => simp [intOf]; omega
          · have h0 : 0 ≤ far' i := by omega
            clear hfar hds
            obtain ⟨wi, rfl⟩ : ∃ wp : World, wp = wr := ⟨_, rfl⟩
            go_wp2_with fail
            exact ⟨⟨_, _, _, ⟨far', rest', i + 1, by omega, by go_num, HDS2.out, closed_no HCL.out (fun _ => h0), HME2.out⟩, rfl, rfl, rfl⟩, by simp [intOf]; omega⟩
        · obtain rfl : n = i := by omega
          obtain ⟨g2, off2, cap2, rfl, hq2⟩ := hds.queue
          obtain ⟨p1, p2⟩ := hds.pop hq2 HCL.out
          have hle := hq2.le
          simp only [List.length_cons] at hle p1 p2 ⊢
          have hmx := hq2.max
          simp only [maxLen] at hmx
          have hcn := hds.cnt
          simp only [List.length_cons] at hcn
          have hme2 := HME2.out
          simp only [List.length_cons] at hme2
          have HMEA := Lib.hid hme2
          obtain ⟨wi, rfl⟩ : ∃ wp : World, wp = wr := ⟨_, rfl⟩
          clear hds hq2 HDS2 hme2
          by_cases hc1 : cap2 = 1
          · have HP := Lib.hid (p1 hc1)
            clear p1 p2
            have hr0 : rest'.length = 0 := by omega
            go_wp2_with fail
            have hm := HP.out.meas
            have hm0 := HME0.out
            have hma := HMEA.out
            refine ⟨⟨far', rest', ?_⟩, ?_⟩
            · first | exact HP.out | (have hp := HP.out; simp only [hr0, hc1, Nat.sub_self] at hp; exact hp)
            · first | (simp only [hr0, hc1, Nat.sub_self] at hm; simp only [List.length_cons]; omega) | (simp only [List.length_cons]; omega)
          · have HP := Lib.hid (p2 hc1)
            clear p1 p2
            go_wp2_with fail
            have hm := HP.out.meas
            have hm0 := HME0.out
            have hma := HMEA.out
            refine ⟨⟨far', rest', ?_⟩, ?_⟩
            · first | exact HP.out | (have hp := HP.out; simp only [hr0, hc1, Nat.sub_self] at hp; exact hp)
            · first | (simp only [hr0, hc1, Nat.sub_self] at hm; simp only [List.length_cons]; omega) | (simp only [List.length_cons]; omega)
end Go.Proofs.YtiogfohjepobkaaDoor
