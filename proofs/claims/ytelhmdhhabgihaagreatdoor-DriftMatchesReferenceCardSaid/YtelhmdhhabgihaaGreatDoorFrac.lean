/-
  pitch.factors: a range over the primes whose exponents are not 0.
  pitch.fraction: what the two lists of powers are, between two rounds.
  pitch.fraction: the products of the powers with positive exponents, and of the others.
-/
import Derived.Test.YtelhmdhhabgihaaGreatDoorApp
import Derived.Deep.RegionHeld3
namespace Go.Proofs.YtelhmdhhabgihaaGreatDoor
open Go.RowKit Go.Shelf
attribute [local go_sem] Oper.semAt_some

def primeI : Nat → Int
  | 0 => 2
  | 1 => 3
  | 2 => 5
  | 3 => 7
  | 4 => 11
  | _ => 13
/-- What the table of primes reads as. -/
structure Primes (w : World) : Prop where
  lt : 1 < w.heap.size
  cell : ∀ k, k < 6 → w.cell? ⟨1, k, none⟩ = some (.int .i64 (primeI k))
theorem Primes.below {w w' : World} {n : Nat} (h : Primes w) (g : Below n w w') (hn : 1 < n) : Primes w' :=
  ⟨Nat.lt_of_lt_of_le h.lt g.size, fun k hk => (Below.cell (p := ⟨1, k, none⟩) g hn).trans (h.cell k hk)⟩
theorem Primes.keep {w w' : World} (h : Primes w) (g : Gr w w') : Primes w' := h.below g h.lt

/-- An index of an exponent that is not 0. -/
abbrev Ix6 (v : V6) := { k : Nat // k < 6 ∧ v.get k ≠ 0 }
def idxs (v : V6) : Nat → List (Ix6 v)
  | 0 => []
  | n + 1 => idxs v n ++ (if h : n < 6 ∧ v.get n ≠ 0 then [⟨n, h⟩] else [])
theorem idxs_yes {v : V6} {n : Nat} (h : n < 6 ∧ v.get n ≠ 0) : idxs v (n + 1) = idxs v n ++ [⟨n, h⟩] := by rw [idxs, dif_pos h]
theorem idxs_no {v : V6} {n : Nat} (h : ¬ (n < 6 ∧ v.get n ≠ 0)) : idxs v (n + 1) = idxs v n := by rw [idxs, dif_neg h, List.append_nil]
theorem idxs_len (v : V6) (n : Nat) : (idxs v n).length ≤ n := by
  induction n with
  | zero => simp [idxs]
  | succ n ih =>
    by_cases h : n < 6 ∧ v.get n ≠ 0
    · rw [idxs_yes h]; simp; omega
    · rw [idxs_no h]; omega
def encF (v : V6) (x : Ix6 v) : Array Value := #[.int .i64 (primeI x.1), .int .i64 (v.get x.1)]

set_option maxRecDepth 100000 in
set_option maxHeartbeats 2000000 in
theorem factors_in (a0 a1 a2 a3 a4 a5 : Int) (n : Nat) (w : World) :
    CallsIn Fence.wide n Tryz.prog 54 #[.agg #[.int .i64 a0, .int .i64 a1, .int .i64 a2, .int .i64 a3, .int .i64 a4, .int .i64 a5]] w
      fun e w' => e = .returned (.func (.func 73) #[] #[.pointer (some ⟨w.heap.size, 0, none⟩)]) ∧ w' = w.alloc (.cells #[.int .i64 a0, .int .i64 a1, .int .i64 a2, .int .i64 a3, .int .i64 a4, .int .i64 a5] 52) := by
  refine callsIn_wide.2 ?_
  have hmf : ∀ (fn : Fn) (first cap : Array Value) (w : World), (Instr.makeFunc fn first cap).run Tryz.prog w = .ok (.func fn first cap) w := fun _ _ _ _ => rfl
  go_enter Tryz.func54, Tryz.ntmps54
  go_wp2
  go_ret
  exact ⟨rfl, rfl⟩

set_option maxRecDepth 100000 in
set_option maxHeartbeats 4000000 in
theorem factors_stops (a0 a1 a2 a3 a4 a5 : Int) (n : Nat) (hn : 1 ≤ n) (Bn n₀ : Nat) (w : World) (hBn : Bn < w.heap.size) (hn₀ : n₀ ≤ w.heap.size) (hp0 : 1 < n₀) (hP : Primes w)
    (hc : ∀ j, j < 6 → w.cell? ⟨Bn, j, none⟩ = some (.int .i64 (V6.get ⟨a0, a1, a2, a3, a4, a5⟩ j))) :
    SeqStopsK Fence.wide n Tryz.prog 73 #[.pointer (some ⟨Bn, 0, none⟩)] (encF ⟨a0, a1, a2, a3, a4, a5⟩) (Below n₀) (fun xs => xs = idxs ⟨a0, a1, a2, a3, a4, a5⟩ 6) (fun _ => True) 6 w := fun l J Jx W hW _ _ hY h0 => by
  have hC : ∀ j, j < 6 → W.cell? ⟨Bn, j, none⟩ = some (.int .i64 (V6.get ⟨a0, a1, a2, a3, a4, a5⟩ j)) := fun j hj => (hW.cell (p := ⟨Bn, j, none⟩) hBn).trans (hc j hj)
  have c0 := hC 0 (by omega); have c1 := hC 1 (by omega); have c2 := hC 2 (by omega); have c3 := hC 3 (by omega); have c4 := hC 4 (by omega); have c5 := hC 5 (by omega)
  simp only [V6.get] at c0 c1 c2 c3 c4 c5
  have HPW := Lib.hid (hP.below (hW.mono hn₀) hp0)
  have HY := Lib.hid hY; have H0 := Lib.hid h0
  clear hC hc hP hY h0
  refine callsIn_of_wp Tryz.func73 rfl trivial ?_ rfl
  simp only [Tryz.ntmps73, List.size_toArray, List.length_cons, List.length_nil, Nat.reduceAdd, Nat.reduceSub, Array.replicate_succ, Array.replicate_zero, List.push_toArray, List.append_toArray, List.nil_append, List.cons_append]
  gi_wp2
  gi_loopw [6] (fun i wr => ∃ k : Nat, k ≤ 6 ∧ i = .int .i64 k ∧ J (idxs ⟨a0, a1, a2, a3, a4, a5⟩ k) wr ∧ Below n₀ W wr)
    (fun i _ => 6 - (intOf i).toNat)
  case atStart => exact ⟨0, by omega, rfl, H0.out, Below.refl _ _⟩
  case round =>
    obtain ⟨k, hk, rfl, hJ, hB⟩ := hrel
    have HJ := Lib.hid hJ; have HB := Lib.hid hB
    clear hJ hB c0 c1 c2 c3 c4 c5
    by_cases hlt : k < 6
    · have hx := run_index6 a0 a1 a2 a3 a4 a5 k hlt
      have hpc := (HPW.out.below HB.out hp0).cell k hlt
      by_cases he : V6.get ⟨a0, a1, a2, a3, a4, a5⟩ k = 0
      · have HE := Lib.hid (idxs_no (v := ⟨a0, a1, a2, a3, a4, a5⟩) (n := k) (fun h => h.2 he))
        rw [he] at hx
        clear he
        gi_wp2
        refine ⟨fun _ h => (by cases h), ?_⟩
        gi_wp2
        go_roundw
        case rel => exact ⟨k + 1, by omega, by go_num, by rw [HE.out]; exact HJ.out, HB.out⟩
        case measure => simp [intOf]; omega
      · obtain ⟨fn, tmps, assign, body, hy, hR⟩ := HY.out (idxs ⟨a0, a1, a2, a3, a4, a5⟩ k) ⟨k, hlt, he⟩ wr HJ.out (Nat.lt_of_le_of_lt (idxs_len _ _) hlt)
        rw [← idxs_yes (v := ⟨a0, a1, a2, a3, a4, a5⟩) (n := k) ⟨hlt, he⟩] at hR
        dsimp only [encF] at hy
        generalize V6.get ⟨a0, a1, a2, a3, a4, a5⟩ k = x at hx hy he
        generalize primeI k = q at hpc hy
        have hb : (x != 0) = true := by simpa using he
        clear he
        gi_wp2
        refine hR.mono ?_
        rintro e W' (⟨rfl, hJ', hk'⟩ | ⟨rfl, hJx'⟩)
        · have HJ' := Lib.hid hJ'; have HB' := Lib.hid (HB.out.trans hk')
          clear hJ' hk'
          gi_wp2
          go_roundw
          case rel => exact ⟨k + 1, by omega, by go_num, HJ'.out, HB'.out⟩
          case measure => simp [intOf]; omega
        · have HJ' := Lib.hid hJx'
          clear hJx'
          gi_wp2
          refine bodyPost_ret (results_none rfl _ _ _) rfl ?_
          exact ⟨⟨_, rfl⟩, .inr ⟨_, trivial, HJ'.out⟩⟩
    · obtain rfl : k = 6 := by omega
      gi_wp2
      go_end0
      exact ⟨⟨_, rfl⟩, .inl ⟨_, rfl, HJ.out⟩⟩
end Go.Proofs.YtelhmdhhabgihaaGreatDoor

namespace Go.Proofs.YtelhmdhhabgihaaGreatDoor
open Go.RowKit Go.Shelf
attribute [local go_sem] Oper.semAt_some

theorem Gr.grown {w w' : World} (h : Gr w w') : w.grownBy w' none := ⟨h.os, h.tape, h.output, h.size, fun k hk _ => h.block k hk⟩
theorem Gr.keeps {w w' : World} (h : Gr w w') (B : Nat) : KeepsFrom B w w' := KeepsFrom.of_grownBy h.grown (fun _ e => by cases e)
theorem Lay.grown {W W' : World} {row : Option Nat} {b n c : Nat} {u : Nat → Int} {N : Int} (h : Lay W b n c u N) (hg : W.grownBy W' row) (hr : ∀ r, row = some r → ∀ x, W.cell? ⟨r, 0, none⟩ ≠ some (.int .u32 x)) : Lay W' b n c u N := by
  refine ⟨Nat.lt_of_lt_of_le h.lt hg.size, h.le, h.nc, h.cc, fun i hi => ?_, h.inb, h.val, h.norm⟩
  refine hg.cell (h.cell i hi) fun e => ?_
  exact hr b e.symm _ (h.cell 0 (by omega))
theorem IsNat.grown {W W' : World} {row : Option Nat} {v : Value} {N : Int} (h : IsNat W v N) (hg : W.grownBy W' row) (hr : ∀ r, row = some r → ∀ x, W.cell? ⟨r, 0, none⟩ ≠ some (.int .u32 x)) : IsNat W' v N := by
  obtain ⟨b, n, c, u, rfl, hl⟩ := h
  exact ⟨b, n, c, u, rfl, hl.grown hg hr⟩

/-- A variable that holds a slice of the call's own: natural numbers, l. -/
structure Half (n₀ B : Nat) (W : World) (v : Value) (xs : List Value) (l : List Int) : Prop where
  box : Boxed W B 91 v
  row : W.ownsRow n₀ 71 1 v l.length xs
  nat : ∀ (i : Nat) (x : Value), xs[i]? = some x → ∃ N, l[i]? = some N ∧ IsNat W x N
  nil : v = .slice none 0 0 ↔ l = []
theorem Half.head {n₀ B : Nat} {W : World} {v : Value} {xs : List Value} {l : List Int} (h : Half n₀ B W v xs l) {g : Nat} (hg : v.ownBlock = some g) (x : Int) : W.cell? ⟨g, 0, none⟩ ≠ some (.int .u32 x) := by
  have hl : l ≠ [] := fun e => by rw [h.nil.2 e] at hg; cases hg
  have hlen : 0 < l.length := List.length_pos_iff.2 hl
  have hx : xs.length = l.length := by have := h.row.1; omega
  have h0 : xs[0]? = some xs[0] := List.getElem?_eq_getElem (by omega)
  have hc := h.row.cells hg 0 _ h0
  obtain ⟨N, _, b, n, c, u, e, _⟩ := h.nat 0 _ h0
  rw [e] at hc
  have ha : (⟨g, 0, none⟩ : Addr).add 0 = ⟨g, 0, none⟩ := rfl
  rw [ha] at hc
  rw [hc]
  simp
theorem Half.kept {n₀ B : Nat} {W W' : World} {v : Value} {xs : List Value} {l : List Int} {row : Option Nat} (h : Half n₀ B W v xs l) (hg : W.grownBy W' row)
    (hr : ∀ r, row = some r → r ≠ B ∧ v.ownBlock ≠ some r ∧ ∀ x, W.cell? ⟨r, 0, none⟩ ≠ some (.int .u32 x)) : Half n₀ B W' v xs l := by
  refine ⟨h.box.kept hg fun e => (hr B e.symm).1 rfl, h.row.kept hg ?_, fun i x hx => ?_, h.nil⟩
  · cases e : v.ownBlock with
    | none => exact .inl rfl
    | some g => exact .inr fun e' => (hr g (by rw [← e']) ).2.1 e
  · obtain ⟨N, hN, hx'⟩ := h.nat i x hx
    exact ⟨N, hN, hx'.grown hg fun r e => (hr r e).2.2⟩
theorem Half.keep {n₀ B : Nat} {W W' : World} {v : Value} {xs : List Value} {l : List Int} (h : Half n₀ B W v xs l) (hg : Gr W W') : Half n₀ B W' v xs l := h.kept hg.grown fun _ e => by cases e
theorem Half.own {n₀ B : Nat} {W W' : World} {v : Value} {xs : List Value} {l : List Int} {row : Option Nat} (h : Half n₀ B W v xs l) (hg : W.grownBy W' row)
    (hr : ∀ r, row = some r → ∃ o : Obj, W.heap[r]? = some o ∧ o.isCells = false) : Half n₀ B W' v xs l := by
  refine h.kept hg fun r e => ?_
  obtain ⟨o, ho, hc⟩ := hr r e
  refine ⟨?_, ?_, ?_⟩
  · rintro rfl
    rw [show W.heap[r]? = _ from h.box] at ho; cases ho; cases hc
  · intro e'
    rcases h.row.2 with ⟨hv, _⟩ | ⟨g, cap, cur, hv, _, hgb, _⟩
    · rw [hv] at e'; cases e'
    · rw [hv] at e'; simp [Value.ownBlock] at e'; subst e'
      rw [hgb] at ho; cases ho; cases hc
  · intro x hx
    obtain ⟨o', ho', hc'⟩ := cells_of_cell hx
    rw [ho] at ho'; cases ho'; rw [hc] at hc'; cases hc'
theorem Half.start (n₀ B : Nat) (W : World) (h : Boxed W B 91 (.slice none 0 0)) : Half n₀ B W (.slice none 0 0) [] [] :=
  ⟨h, World.ownsRow_nil _ _ _ _, fun i x hx => by simp at hx, by simp⟩
/-- The variable's slice has been appended to, and stored back. -/
theorem Half.push {n₀ B : Nat} {W w1 : World} {v v' : Value} {xs : List Value} {l : List Int} {x : Value} {N : Int} {tmp : Obj} (h : Half n₀ B W v xs l) (hx : IsNat W x N) (hn₀ : n₀ ≤ W.heap.size) (hB : n₀ ≤ B)
    (hown' : w1.ownsRow n₀ 71 1 v' (l.length + 1) (xs ++ [x])) (hgrow : (W.alloc tmp).grownBy w1 v.ownBlock) :
    Boxed w1 B 91 v ∧ Half n₀ B (w1.setCell ⟨B, 0, none⟩ v') v' (xs ++ [x]) (l ++ [N]) ∧ KeepsOthers W (w1.setCell ⟨B, 0, none⟩ v') ∧ Below n₀ W (w1.setCell ⟨B, 0, none⟩ v') := by
  obtain ⟨hv1, hv2, hr2, hk2, hb2⟩ := h.box.appended (by decide) h.row hn₀ hB hown' hgrow
  have hA : Half n₀ B (W.alloc tmp) v xs l := h.keep ((Gr.refl W).alloc tmp)
  have hxA : IsNat (W.alloc tmp) x N := hx.keep ((Gr.refl W).alloc tmp)
  have hrow1 : ∀ r, v.ownBlock = some r → ∀ y, (W.alloc tmp).cell? ⟨r, 0, none⟩ ≠ some (.int .u32 y) := fun r e y => hA.head e y
  have hbx : ∀ r, some B = some r → ∀ y, w1.cell? ⟨r, 0, none⟩ ≠ some (.int .u32 y) := by
    intro r e y
    cases e
    rw [hv1.cell]
    intro e2
    rcases h.row.2 with ⟨e', _⟩ | ⟨g, cap, cur, e', _⟩ <;> rw [e'] at e2 <;> simp at e2
  have two : ∀ y M, IsNat (W.alloc tmp) y M → IsNat (w1.setCell ⟨B, 0, none⟩ v') y M := fun y M hy => (hy.grown hgrow hrow1).grown (Go.grownBy_setCell' w1 B v') hbx
  refine ⟨hv1, ⟨hv2, by simpa using hr2, fun i y hy => ?_, ?_⟩, hk2, hb2⟩
  · have hlen : xs.length = l.length := by have := h.row.1; omega
    rcases Nat.lt_or_ge i xs.length with hi | hi
    · rw [List.getElem?_append_left hi] at hy
      obtain ⟨M, hM, hyM⟩ := hA.nat i y hy
      exact ⟨M, by rw [List.getElem?_append_left (by omega)]; exact hM, two y M hyM⟩
    · rw [List.getElem?_append_right hi] at hy
      have hi2 : i - xs.length = 0 := by
        rcases Nat.eq_zero_or_pos (i - xs.length) with h0 | h0
        · exact h0
        · rw [List.getElem?_eq_none (by simp; omega)] at hy; cases hy
      rw [hi2] at hy
      obtain rfl : x = y := by simpa using hy
      exact ⟨N, by rw [List.getElem?_append_right (by omega), ← hlen, hi2]; rfl, two x N hxA⟩
  · obtain ⟨g', cap', rfl⟩ := ownsRow_succ hown'
    simp
/-- The other variable's slice, where the first one has been appended to and stored back. -/
theorem Half.beside {n₀ B B' : Nat} {W w1 : World} {v v' v2 : Value} {xs xs2 : List Value} {l l2 : List Int} {tmp : Obj} (h : Half n₀ B W v xs l) (k : Half n₀ B' W v2 xs2 l2) (hne : B ≠ B') (hap : v.ownBlock = none ∨ v.ownBlock ≠ v2.ownBlock)
    (hv1 : Boxed w1 B 91 v) (hgrow : (W.alloc tmp).grownBy w1 v.ownBlock) : Half n₀ B' (w1.setCell ⟨B, 0, none⟩ v') v2 xs2 l2 := by
  have hA : Half n₀ B (W.alloc tmp) v xs l := h.keep ((Gr.refl W).alloc tmp)
  have kA : Half n₀ B' (W.alloc tmp) v2 xs2 l2 := k.keep ((Gr.refl W).alloc tmp)
  have k1 : Half n₀ B' w1 v2 xs2 l2 := kA.kept hgrow fun r e => ⟨?_, ?_, fun x => hA.head e x⟩
  · refine k1.kept (Go.grownBy_setCell' w1 B v') fun r e => ?_
    cases e
    refine ⟨hne, fun e' => ?_, fun x => ?_⟩
    · exact hv1.not_row (by decide) k1.row e'.symm
    · rw [hv1.cell]
      intro e2
      rcases h.row.2 with ⟨e', _⟩ | ⟨g, cap, cur, e', _⟩ <;> rw [e'] at e2 <;> simp at e2
  · rintro rfl
    exact kA.box.not_row (by decide) hA.row e.symm
  · intro e'
    rcases hap with hap | hap
    · rw [hap] at e; cases e
    · exact hap (e.trans e'.symm)
theorem apart_of {W W0 : World} {n₀ B' : Nat} {v v' v2 : Value} {xs2 : List Value} {l2 : List Int} (hw : Whence W0 v v') (k : Half n₀ B' W v2 xs2 l2) (hz : W.heap.size ≤ W0.heap.size) (hap : v.ownBlock = none ∨ v.ownBlock ≠ v2.ownBlock) : v'.ownBlock = none ∨ v'.ownBlock ≠ v2.ownBlock := by
  rcases hw with h | ⟨g, hg, hs⟩
  · rw [h]; exact hap
  · refine .inr fun e => ?_
    have := (k.row.lt g (by rw [← e]; exact hg)).2
    omega
theorem apart_sym {W : World} {n₀ : Nat} {v v2 : Value} {n n2 : Nat} {xs xs2 : List Value} (h : v.ownBlock = none ∨ v.ownBlock ≠ v2.ownBlock) (_ : W.ownsRow n₀ 71 1 v n xs) (_ : W.ownsRow n₀ 71 1 v2 n2 xs2) : v2.ownBlock = none ∨ v2.ownBlock ≠ v.ownBlock := by
  rcases h with h | h
  · rw [h]; cases v2.ownBlock <;> simp
  · exact .inr fun e => h e.symm
theorem apart_of2 {W W0 w1 : World} {n₀ B B' : Nat} {v v' v2 : Value} {xs xs2 : List Value} {l l2 : List Int} (hw : Whence W0 v v') (k : Half n₀ B' W v2 xs2 l2) (hz : W.heap.size ≤ W0.heap.size) (hap : v2.ownBlock = none ∨ v2.ownBlock ≠ v.ownBlock) (_ : Half n₀ B w1 v' xs l) : v2.ownBlock = none ∨ v2.ownBlock ≠ v'.ownBlock := by
  rcases hw with h | ⟨g, hg, hs⟩
  · rw [h]; exact hap
  · refine .inr fun e => ?_
    have := (k.row.lt g (by rw [e]; exact hg)).2
    omega
end Go.Proofs.YtelhmdhhabgihaaGreatDoor

namespace Go.Proofs.YtelhmdhhabgihaaGreatDoor
open Go.RowKit Go.Shelf
attribute [local go_sem] Oper.semAt_some

def posL (v : V6) (pre : List (Ix6 v)) : List Int := (pre.filter fun x => decide (0 < v.get x.1)).map fun x => primeI x.1 ^ (v.get x.1).toNat
def negL (v : V6) (pre : List (Ix6 v)) : List Int := (pre.filter fun x => decide (v.get x.1 < 0)).map fun x => primeI x.1 ^ (-(v.get x.1)).toNat
theorem posL_yes {v : V6} {pre : List (Ix6 v)} {x : Ix6 v} (h : 0 < v.get x.1) : posL v (pre ++ [x]) = posL v pre ++ [primeI x.1 ^ (v.get x.1).toNat] := by simp [posL, h]
theorem posL_no {v : V6} {pre : List (Ix6 v)} {x : Ix6 v} (h : v.get x.1 < 0) : posL v (pre ++ [x]) = posL v pre := by
  have h' : ¬ 0 < v.get x.1 := by omega
  simp [posL, h']
theorem negL_yes {v : V6} {pre : List (Ix6 v)} {x : Ix6 v} (h : v.get x.1 < 0) : negL v (pre ++ [x]) = negL v pre ++ [primeI x.1 ^ (-(v.get x.1)).toNat] := by simp [negL, h]
theorem negL_no {v : V6} {pre : List (Ix6 v)} {x : Ix6 v} (h : 0 < v.get x.1) : negL v (pre ++ [x]) = negL v pre := by
  have h' : ¬ v.get x.1 < 0 := by omega
  simp [negL, h']
theorem posL_len (v : V6) (pre : List (Ix6 v)) : (posL v pre).length ≤ pre.length := by unfold posL; rw [List.length_map]; exact List.length_filter_le _ _
theorem negL_len (v : V6) (pre : List (Ix6 v)) : (negL v pre).length ≤ pre.length := by unfold negL; rw [List.length_map]; exact List.length_filter_le _ _

/-- Between two rounds. -/
def Between (v : V6) (n₀ B C : Nat) (pre : List (Ix6 v)) (W : World) : Prop :=
  ∃ vo vu xo xu, Half n₀ B W vo xo (posL v pre) ∧ Half n₀ C W vu xu (negL v pre) ∧ (vo.ownBlock = none ∨ vo.ownBlock ≠ vu.ownBlock)
theorem between_own (v : V6) (n₀ B C : Nat) : Own (Between v n₀ B C) := by
  rintro s X Y row ⟨vo, vu, xo, xu, h1, h2, h3⟩ hg hr
  exact ⟨vo, vu, xo, xu, h1.own hg hr, h2.own hg hr, h3⟩

theorem infoNat : (Tryz.prog.info? 71).map (fun i => (i.zero, i.size, i.bytes)) = some (some (.slice none 0 0), 1, 24) := by kernel_rfl

/-- What fraction returns. -/
def FracRes (v : V6) (w : World) (e : Ending) (w' : World) : Prop := ∃ a b, e = .returned (.tuple #[a, b]) ∧ IsNat w' a v.num ∧ IsNat w' b v.den ∧ Gr w w'

theorem allIn_at {v : V6} {b : Int} (h : allIn v b 6 = true) (k : Nat) (hk : k < 6) : -b ≤ v.get k ∧ v.get k ≤ b := by
  simp only [allIn, Bool.and_eq_true, decide_eq_true_eq] at h
  obtain rfl | rfl | rfl | rfl | rfl | rfl : k = 0 ∨ k = 1 ∨ k = 2 ∨ k = 3 ∨ k = 4 ∨ k = 5 := by omega
  all_goals omega
theorem pow_mono {x y : Int} (h0 : 0 ≤ x) (h : x ≤ y) (n : Nat) : x ^ n ≤ y ^ n := by
  induction n with
  | zero => simp
  | succ n ih =>
    rw [Int.pow_succ, Int.pow_succ]
    exact Int.mul_le_mul ih h h0 (Int.le_trans (Int.pow_nonneg h0) ih)
theorem prime_bd (k : Nat) : 1 < primeI k ∧ primeI k ≤ 13 := by
  unfold primeI; split <;> omega
theorem frac_lim {q : Int} {m : Nat} (hq : q ≤ 13) (h0 : 1 < q) (hm : m ≤ 1152) : q ^ m < BB ^ 640 := by
  have h1 : q ^ m ≤ q ^ 1152 := pow_le h0 hm
  have h2 : q ^ 1152 ≤ 13 ^ 1152 := pow_mono (by omega) hq _
  have h3 : (13 : Int) ^ 1152 < BB ^ 640 := by decide +kernel
  omega
/-- The world in which the range over the factors begins. -/
def fracW (a0 a1 a2 a3 a4 a5 : Int) (w : World) : World :=
  (((w.alloc (.cells #[.int .i64 a0, .int .i64 a1, .int .i64 a2, .int .i64 a3, .int .i64 a4, .int .i64 a5] 52)).alloc (.cells #[.slice none 0 0] 91)).alloc (.cells #[.slice none 0 0] 91)).alloc (.cells #[.int .i64 a0, .int .i64 a1, .int .i64 a2, .int .i64 a3, .int .i64 a4, .int .i64 a5] 52)
theorem fraction_start (a0 a1 a2 a3 a4 a5 : Int) (w : World) (hP : Primes w) :
    (fracW a0 a1 a2 a3 a4 a5 w).heap.size = w.heap.size + 4 ∧ Gr w (fracW a0 a1 a2 a3 a4 a5 w) ∧ Primes (fracW a0 a1 a2 a3 a4 a5 w) ∧
    (∀ j, j < 6 → (fracW a0 a1 a2 a3 a4 a5 w).cell? ⟨w.heap.size + 1 + 1 + 1, j, none⟩ = some (.int .i64 (V6.get ⟨a0, a1, a2, a3, a4, a5⟩ j))) ∧
    Between ⟨a0, a1, a2, a3, a4, a5⟩ w.heap.size (w.heap.size + 1) (w.heap.size + 1 + 1) [] (fracW a0 a1 a2 a3 a4 a5 w) := by
  have hg : Gr w (fracW a0 a1 a2 a3 a4 a5 w) := ((((Gr.refl w).alloc _).alloc _).alloc _).alloc _
  refine ⟨by simp [fracW], hg, hP.keep hg, fun j hj => ?_, .slice none 0 0, .slice none 0 0, [], [], Half.start _ _ _ ?_, Half.start _ _ _ ?_, .inl rfl⟩
  · obtain rfl | rfl | rfl | rfl | rfl | rfl : j = 0 ∨ j = 1 ∨ j = 2 ∨ j = 3 ∨ j = 4 ∨ j = 5 := by omega
    all_goals simp [fracW, go_sem, V6.get]
  · have b := Boxed.new (w.alloc (.cells #[.int .i64 a0, .int .i64 a1, .int .i64 a2, .int .i64 a3, .int .i64 a4, .int .i64 a5] 52)) 91 (.slice none 0 0)
    rw [World.size_alloc] at b
    exact (b.alloc _).alloc _
  · have b := Boxed.new ((w.alloc (.cells #[.int .i64 a0, .int .i64 a1, .int .i64 a2, .int .i64 a3, .int .i64 a4, .int .i64 a5] 52)).alloc (.cells #[.slice none 0 0] 91)) 91 (.slice none 0 0)
    rw [World.size_alloc, World.size_alloc] at b
    exact b.alloc _

theorem prodF_congr {f g : Nat → Int} {k : Nat} (h : ∀ i, i < k → f i = g i) : prodF f k = prodF g k := by
  induction k with
  | zero => rfl
  | succ k ih =>
    show prodF f k * f k = prodF g k * g k
    rw [ih fun i hi => h i (by omega), h k (by omega)]
theorem prodF_snoc (l : List Int) (x : Int) : prodF (fun i => (l ++ [x]).getD i 1) (l ++ [x]).length = prodF (fun i => l.getD i 1) l.length * x := by
  rw [List.length_append]
  show prodF _ l.length * (l ++ [x]).getD l.length 1 = _
  rw [prodF_congr (g := fun i => l.getD i 1) fun i hi => by rw [List.getD_eq_getElem?_getD, List.getD_eq_getElem?_getD, List.getElem?_append_left hi]]
  congr 1
  simp
theorem prodF_one {f : Nat → Int} (h : ∀ i, 1 ≤ f i) {k n : Nat} (hk : k ≤ n) : 1 ≤ prodF f k ∧ prodF f k ≤ prodF f n := by
  have one : ∀ m, 1 ≤ prodF f m := by
    intro m
    induction m with
    | zero => exact Int.le_refl _
    | succ m ih =>
      show 1 ≤ prodF f m * f m
      have := Int.mul_le_mul ih (h m) (by omega) (by omega)
      omega
  refine ⟨one k, ?_⟩
  induction n with
  | zero => obtain rfl : k = 0 := by omega
            exact Int.le_refl _
  | succ n ih =>
    rcases Nat.lt_or_ge n k with h' | h'
    · obtain rfl : k = n + 1 := by omega
      exact Int.le_refl _
    · have h1 := ih h'
      have h2 := Int.mul_le_mul_of_nonneg_left (h n) (show 0 ≤ prodF f n by have := one n; omega)
      show _ ≤ prodF f n * f n
      omega
/-- The product of the powers with positive exponents among the first k. -/
def numK (v : V6) : Nat → Int
  | 0 => 1
  | k + 1 => numK v k * primeI k ^ (v.get k).toNat
def denK (v : V6) : Nat → Int
  | 0 => 1
  | k + 1 => denK v k * primeI k ^ (-(v.get k)).toNat
theorem pos_numK (v : V6) (n : Nat) (hn : n ≤ 6) : prodF (fun i => (posL v (idxs v n)).getD i 1) (posL v (idxs v n)).length = numK v n := by
  induction n with
  | zero => rfl
  | succ n ih =>
    have i := ih (by omega)
    show _ = numK v n * primeI n ^ (v.get n).toNat
    by_cases h : n < 6 ∧ v.get n ≠ 0
    · rw [idxs_yes h]
      rcases Int.lt_or_gt_of_ne h.2 with h' | h'
      · rw [posL_no (x := ⟨n, h⟩) h', i, show (v.get n).toNat = 0 by omega]; simp
      · rw [posL_yes (x := ⟨n, h⟩) h', prodF_snoc, i]
    · rw [idxs_no h, i, show (v.get n).toNat = 0 by omega]; simp
theorem neg_denK (v : V6) (n : Nat) (hn : n ≤ 6) : prodF (fun i => (negL v (idxs v n)).getD i 1) (negL v (idxs v n)).length = denK v n := by
  induction n with
  | zero => rfl
  | succ n ih =>
    have i := ih (by omega)
    show _ = denK v n * primeI n ^ (-(v.get n)).toNat
    by_cases h : n < 6 ∧ v.get n ≠ 0
    · rw [idxs_yes h]
      rcases Int.lt_or_gt_of_ne h.2 with h' | h'
      · rw [negL_yes (x := ⟨n, h⟩) h', prodF_snoc, i]
      · rw [negL_no (x := ⟨n, h⟩) h', i, show (-(v.get n)).toNat = 0 by omega]; simp
    · rw [idxs_no h, i, show (-(v.get n)).toNat = 0 by omega]; simp
theorem numK_six (v : V6) : numK v 6 = v.num := by
  unfold V6.num prodP
  simp only [numK, primeI, V6.get, Int.natCast_mul, Int.natCast_pow]
  simp
theorem denK_six (v : V6) : denK v 6 = v.den := by
  unfold V6.den prodP
  simp only [denK, primeI, V6.get, Int.natCast_mul, Int.natCast_pow]
  simp
theorem big_lim : (prodP 1152 1152 1152 1152 1152 1152 : Int) < BB ^ 640 := by decide +kernel
theorem num_lim {v : V6} (hv : allIn v 1152 6 = true) : (v.num : Int) < BB ^ 640 ∧ (v.den : Int) < BB ^ 640 := by
  have g : ∀ k, k < 6 → (v.get k).toNat ≤ 1152 ∧ (-(v.get k)).toNat ≤ 1152 := fun k hk => by have := allIn_at hv k hk; omega
  have g0 := g 0 (by omega); have g1 := g 1 (by omega); have g2 := g 2 (by omega); have g3 := g 3 (by omega); have g4 := g 4 (by omega); have g5 := g 5 (by omega)
  have h1 : v.num ≤ prodP 1152 1152 1152 1152 1152 1152 := prodP_mono g0.1 g1.1 g2.1 g3.1 g4.1 g5.1
  have h2 : v.den ≤ prodP 1152 1152 1152 1152 1152 1152 := prodP_mono g0.2 g1.2 g2.2 g3.2 g4.2 g5.2
  have h3 := big_lim
  generalize prodP 1152 1152 1152 1152 1152 1152 = X at *
  generalize BB ^ 640 = Y at *
  omega
theorem one_le_pow {q : Int} (h : 1 < q) (n : Nat) : 1 ≤ q ^ n := by
  have : 0 < q ^ n := Int.pow_pos (by omega)
  omega
theorem getD_one {l : List Int} (h : ∀ x ∈ l, 1 ≤ x) (i : Nat) : 1 ≤ l.getD i 1 := by
  rw [List.getD_eq_getElem?_getD]
  cases e : l[i]? with
  | none => exact Int.le_refl _
  | some x => exact h x (List.mem_of_getElem? e)
theorem half_mul {n₀ B : Nat} {W : World} {v : Value} {xs : List Value} {l : List Int} (h : Half n₀ B W v xs l) (hn : l.length ≤ 100) (hlim : ∀ k, k ≤ l.length → prodF (fun i => l.getD i 1) k < BB ^ 640) :
    ∀ wx, Gr W wx → Calls Tryz.prog 57 #[v] wx (NatRes (prodF (fun i => l.getD i 1) l.length) wx) := by
  intro wx hg
  have hh := h.keep hg
  refine multiply_any v l.length _ wx ?_ hn hlim
  have hlen : xs.length = l.length := by have := hh.row.1; omega
  rcases hh.row.2 with ⟨rfl, h0⟩ | ⟨g, cap, cur, rfl, _, hgb, _⟩
  · exact .inl ⟨rfl, h0⟩
  · refine .inr ⟨g, cap, rfl, (Array.getElem?_eq_some_iff.1 hgb).1, fun i hi => ?_⟩
    have h0 : xs[i]? = some xs[i] := List.getElem?_eq_getElem (by omega)
    obtain ⟨N, hN, hx⟩ := hh.nat i _ h0
    refine ⟨xs[i], ?_, ?_⟩
    · have := hh.row.cells (g := g) rfl i _ h0
      have ha : (⟨g, 0, none⟩ : Addr).add i = ⟨g, i, none⟩ := by unfold Addr.add; split <;> simp_all
      rwa [ha] at this
    · show IsNat wx xs[i] (l.getD i 1)
      rw [List.getD_eq_getElem?_getD, hN]; exact hx
theorem pos_num (v : V6) : prodF (fun i => (posL v (idxs v 6)).getD i 1) (posL v (idxs v 6)).length = v.num := by rw [pos_numK v 6 (Nat.le_refl _), numK_six]
theorem neg_den (v : V6) : prodF (fun i => (negL v (idxs v 6)).getD i 1) (negL v (idxs v 6)).length = v.den := by rw [neg_denK v 6 (Nat.le_refl _), denK_six]
theorem pos_lim {v : V6} (hv : allIn v 1152 6 = true) : ∀ k, k ≤ (posL v (idxs v 6)).length → prodF (fun i => (posL v (idxs v 6)).getD i 1) k < BB ^ 640 := by
  intro k hk
  have h := (prodF_one (f := fun i => (posL v (idxs v 6)).getD i 1) (fun i => getD_one (fun x hx => ?_) i) hk).2
  · rw [pos_num] at h
    exact Int.lt_of_le_of_lt h (num_lim hv).1
  · obtain ⟨y, _, rfl⟩ := List.mem_map.1 hx
    exact one_le_pow (prime_bd _).1 _
theorem neg_lim {v : V6} (hv : allIn v 1152 6 = true) : ∀ k, k ≤ (negL v (idxs v 6)).length → prodF (fun i => (negL v (idxs v 6)).getD i 1) k < BB ^ 640 := by
  intro k hk
  have h := (prodF_one (f := fun i => (negL v (idxs v 6)).getD i 1) (fun i => getD_one (fun x hx => ?_) i) hk).2
  · rw [neg_den] at h
    exact Int.lt_of_le_of_lt h (num_lim hv).2
  · obtain ⟨y, _, rfl⟩ := List.mem_map.1 hx
    exact one_le_pow (prime_bd _).1 _

set_option maxRecDepth 100000 in
set_option maxHeartbeats 8000000 in
theorem fraction_any (a0 a1 a2 a3 a4 a5 : Int) (w : World) (hP : Primes w) (hv : allIn ⟨a0, a1, a2, a3, a4, a5⟩ 1152 6 = true) :
    Calls Tryz.prog 35 #[.agg #[.int .i64 a0, .int .i64 a1, .int .i64 a2, .int .i64 a3, .int .i64 a4, .int .i64 a5]] w (FracRes ⟨a0, a1, a2, a3, a4, a5⟩ w) := by
  obtain ⟨i0, hi, hz0, hz1, hz2⟩ := info_parts infoNat
  refine (callsIn_wide (n := 6)).1 ?_
  refine callsIn_of_wp_marks Tryz.func35 rfl trivial ?_ rfl
  simp only [Tryz.ntmps35, List.size_toArray, List.length_cons, List.length_nil, Nat.reduceAdd, Nat.reduceSub, Array.replicate_succ, Array.replicate_zero, List.push_toArray, List.append_toArray, List.nil_append, List.cons_append]
  gi_wp2_with (refine ⟨trivial, ?_⟩; gi_at_call 54; refine (factors_in a0 a1 a2 a3 a4 a5 _ _).mono ?_; rintro e w' ⟨rfl, rfl⟩)
  have HP0 := Lib.hid (hP.keep ((((Gr.refl w).alloc (.cells #[.int .i64 a0, .int .i64 a1, .int .i64 a2, .int .i64 a3, .int .i64 a4, .int .i64 a5] 52)).alloc (.cells #[.slice none 0 0] 91)).alloc (.cells #[.slice none 0 0] 91)))
  have hs := fraction_start a0 a1 a2 a3 a4 a5 w hP
  obtain ⟨W0, hW0⟩ : ∃ W0, fracW a0 a1 a2 a3 a4 a5 w = W0 := ⟨_, rfl⟩
  have hW0' := hW0
  unfold fracW at hW0'
  rw [hW0']
  rw [hW0] at hs
  clear hW0 hW0' HP0
  obtain ⟨s1, s2, s3, s4, s5⟩ := hs
  have hst := factors_stops a0 a1 a2 a3 a4 a5 (6 - 1) (by omega) (w.heap.size + 1 + 1 + 1) w.heap.size W0 (by omega) (by omega) hP.lt s3 s4
  clear s4
  generalize hvv : (⟨a0, a1, a2, a3, a4, a5⟩ : V6) = vv at *
  refine wpIn_rangeFunc_ownG rfl (by omega) (gf := 73) (lb := #[.pointer (some ⟨w.heap.size + 1 + 1 + 1, 0, none⟩)]) rfl trivial (enters_of Tryz.func73 (by kernel_rfl) rfl)
    hst belowK_t (belowK_b (by omega)) (Below.refl _ _) (fun _ => rfl)
    (fun pre W => Between vv w.heap.size (w.heap.size + 1) (w.heap.size + 1 + 1) pre W ∧ Below w.heap.size w W)
    (fun _ _ _ => False)
    (OwnFrom.and (Own.from (between_own _ _ _ _) _) (ownFrom_below (Nat.le_refl _) (by omega)))
    (fun _ _ _ _ _ hs _ _ => hs)
    ⟨s5, s2⟩
    (fun x => { tmps := #[.agg #[.int .i64 a0, .int .i64 a1, .int .i64 a2, .int .i64 a3, .int .i64 a4, .int .i64 a5], .pointer (some ⟨w.heap.size, 0, none⟩), .slice none 0 0, .slice none 0 0, .pointer (some ⟨w.heap.size + 1, 0, none⟩), .pointer (some ⟨w.heap.size + 1 + 1, 0, none⟩), .int .i64 (primeI x.1), .int .i64 (vv.get x.1), undef, undef, .agg #[.int .i64 a0, .int .i64 a1, .int .i64 a2, .int .i64 a3, .int .i64 a4, .int .i64 a5], .func (.func 73) #[] #[.pointer (some ⟨w.heap.size + 1 + 1 + 1, 0, none⟩)], .int .i64 (primeI x.1), .int .i64 (vv.get x.1), undef, undef, undef, undef, undef, undef, undef, undef, undef, undef, undef, undef, undef, undef, undef, undef, undef, undef, undef, undef, undef, undef, undef, undef, undef], defers := [] }) ?assign ?body ?done ?stop
  case assign =>
    intro l x W K hK
    unfold encF
    gi_wp2
    exact hK
  case body =>
    rintro l pre ⟨k, hk6, he⟩ W ⟨⟨vo, vu, xo, xu, h1, h2, hap⟩, hBW⟩ hlt
    have hbd := allIn_at hv k hk6
    have hpl := posL_len vv pre
    have hnl := negL_len vv pre
    have HH1 := Lib.hid h1; have HH2 := Lib.hid h2; have HAP := Lib.hid hap; have HBW := Lib.hid hBW
    have HVV := Lib.hid hvv
    clear h1 h2 hap hBW hvv s1 s2 s3 s5
    obtain ⟨hq1, hq2⟩ := prime_bd k
    rcases Int.lt_or_gt_of_ne he with hneg | hpos
    · have HPY := Lib.hid (negL_yes (pre := pre) (x := ⟨k, hk6, he⟩) hneg)
      have HNN := Lib.hid (posL_no (pre := pre) (x := ⟨k, hk6, he⟩) hneg)
      obtain ⟨m, hm⟩ : ∃ m : Nat, vv.get k = -(m : Int) := ⟨(-(vv.get k)).toNat, by omega⟩
      have hm2 : m ≤ 1152 := by omega
      have hm0 : 0 < m := by omega
      simp only [hm] at hbd ⊢
      have HM := Lib.hid hm
      clear hm hneg hbd
      generalize primeI k = q at *
      have hmx : max (-(m : Int)) (m : Int) = m := by omega
      have hmx2 : max (-(m : Int)) (- -(m : Int)) = m := by omega
      have HL13 := Lib.hid (frac_lim hq2 hq1 hm2)
      gi_wp2_with fail
      refine ⟨trivial, (CallsIn.inRound l (callsIn_wide.2 (natMake_any q _ (by omega) (by omega)))).mono ?_⟩
      rintro e w2 ⟨v2, rfl, ⟨b2, n2, c2, u2, rfl, hl2⟩, hg2⟩
      have HL2 := Lib.hid hl2; have HG2 := Lib.hid hg2
      clear hl2 hg2
      gi_wp2_with fail
      refine ⟨trivial, (CallsIn.inRound l (callsIn_wide.2 (pow_lay b2 n2 c2 u2 q m _ HL2.out (by omega) (by omega) (by omega) HL13.out))).mono ?_⟩
      rintro e w3 ⟨v3, rfl, ⟨b3, n3, c3, u3, rfl, hl3⟩, hg3⟩
      have HL3 := Lib.hid hl3; have HG3 := Lib.hid (HG2.out.trans hg3)
      clear hl3 hg3 hmx hmx2 HL2 HG2
      have H1 := Lib.hid (HH1.out.keep HG3.out); have H2 := Lib.hid (HH2.out.keep HG3.out)
      have hbox := H2.out.box.cell
      have HZ := Lib.hid (Nat.le_trans HBW.out.size HG3.out.le)
      have b1 : (negL vv pre).length + 1 ≤ maxLen := by unfold maxLen; omega
      have b2' : ((negL vv pre).length + 1) * 24 ≤ 140737488355328 := by omega
      have b3' : w.heap.size ≤ (w3.alloc (.cells #[.slice (some ⟨b3, 0, none⟩) n3 c3] 71)).heap.size := by have := HZ.out; simp; omega
      gi_wp2_with (gi_at_builtin; refine wpListIn_append_two _ rfl _ _ 91 rfl w.heap.size 71 i0 (.slice none 0 0) 1 24 Tryz.underlying91 hi hz0 hz1 hz2 rfl (by decide) _ _ _ rfl (H2.out.row.alloc _) ⟨w3.heap.size, 0, none⟩ 1 1 [.slice (some ⟨b3, 0, none⟩) n3 c3] rfl rfl (cell_one_new _ _ _) (by simp [Value.oneCell']) b1 b2' b3' (by decide) ?_; intro v' w1 hown' hgrow hwh; obtain ⟨g', cap', rfl⟩ := ownsRow_succ hown'; obtain ⟨hv1, hh2, hk2, hb2⟩ := H2.out.push (N := q ^ m) ⟨b3, n3, c3, u3, rfl, HL3.out⟩ HZ.out (by omega) hown' hgrow; have HX := Lib.hid (And.intro hh2 (And.intro hk2 hb2)); have HY := Lib.hid (And.intro hwh hgrow); have HV := Lib.hid hv1; have hc1 := hv1.cell; have hf1 := hv1.frozen; clear hown' hgrow hwh hv1 hh2 hk2 hb2)
      have hem : (-(vv.get k)).toNat = m := by rw [HM.out]; omega
      have hl1 := HPY.out
      rw [hem] at hl1
      have hb := H2.out.beside (v' := .slice (some ⟨g', 0, none⟩) ((negL vv pre).length + 1) cap') H1.out (by omega) (apart_sym HAP.out H1.out.row H2.out.row) HV.out HY.out.2
      refine ⟨(HG3.out.keeps _).trans (HX.out.2.1.from _), (Below.mono HG3.out HBW.out.size).trans HX.out.2.2, ?_, (HBW.out.trans (Below.mono HG3.out HBW.out.size)).trans HX.out.2.2⟩
      unfold Between
      rw [hl1, HNN.out]
      exact ⟨vo, _, xo, _, hb, HX.out.1, apart_of2 HY.out.1 H1.out (by simp) HAP.out HX.out.1⟩
    · have HPY := Lib.hid (posL_yes (pre := pre) (x := ⟨k, hk6, he⟩) hpos)
      have HNN := Lib.hid (negL_no (pre := pre) (x := ⟨k, hk6, he⟩) hpos)
      obtain ⟨m, hm⟩ : ∃ m : Nat, vv.get k = (m : Int) := ⟨(vv.get k).toNat, by omega⟩
      have hm2 : m ≤ 1152 := by omega
      have hm0 : 0 < m := by omega
      simp only [hm] at hbd ⊢
      have HM := Lib.hid hm
      clear hm hpos hbd
      generalize primeI k = q at *
      have hmx : max (m : Int) (-(m : Int)) = m := by omega
      have HL13 := Lib.hid (frac_lim hq2 hq1 hm2)
      gi_wp2_with fail
      refine ⟨trivial, (CallsIn.inRound l (callsIn_wide.2 (natMake_any q _ (by omega) (by omega)))).mono ?_⟩
      rintro e w2 ⟨v2, rfl, ⟨b2, n2, c2, u2, rfl, hl2⟩, hg2⟩
      have HL2 := Lib.hid hl2; have HG2 := Lib.hid hg2
      clear hl2 hg2
      gi_wp2_with fail
      refine ⟨trivial, (CallsIn.inRound l (callsIn_wide.2 (pow_lay b2 n2 c2 u2 q m _ HL2.out (by omega) (by omega) (by omega) HL13.out))).mono ?_⟩
      rintro e w3 ⟨v3, rfl, ⟨b3, n3, c3, u3, rfl, hl3⟩, hg3⟩
      have HL3 := Lib.hid hl3; have HG3 := Lib.hid (HG2.out.trans hg3)
      clear hl3 hg3 hmx HL2 HG2
      have H1 := Lib.hid (HH1.out.keep HG3.out); have H2 := Lib.hid (HH2.out.keep HG3.out)
      have hbox := H1.out.box.cell
      have HZ := Lib.hid (Nat.le_trans HBW.out.size HG3.out.le)
      have b1 : (posL vv pre).length + 1 ≤ maxLen := by unfold maxLen; omega
      have b2' : ((posL vv pre).length + 1) * 24 ≤ 140737488355328 := by omega
      have b3' : w.heap.size ≤ (w3.alloc (.cells #[.slice (some ⟨b3, 0, none⟩) n3 c3] 71)).heap.size := by have := HZ.out; simp; omega
      gi_wp2_with (gi_at_builtin; refine wpListIn_append_two _ rfl _ _ 91 rfl w.heap.size 71 i0 (.slice none 0 0) 1 24 Tryz.underlying91 hi hz0 hz1 hz2 rfl (by decide) _ _ _ rfl (H1.out.row.alloc _) ⟨w3.heap.size, 0, none⟩ 1 1 [.slice (some ⟨b3, 0, none⟩) n3 c3] rfl rfl (cell_one_new _ _ _) (by simp [Value.oneCell']) b1 b2' b3' (by decide) ?_; intro v' w1 hown' hgrow hwh; obtain ⟨g', cap', rfl⟩ := ownsRow_succ hown'; obtain ⟨hv1, hh2, hk2, hb2⟩ := H1.out.push (N := q ^ m) ⟨b3, n3, c3, u3, rfl, HL3.out⟩ HZ.out (by omega) hown' hgrow; have HX := Lib.hid (And.intro hh2 (And.intro hk2 hb2)); have HY := Lib.hid (And.intro hwh hgrow); have HV := Lib.hid hv1; have hc1 := hv1.cell; have hf1 := hv1.frozen; clear hown' hgrow hwh hv1 hh2 hk2 hb2)
      have hem : (vv.get k).toNat = m := by rw [HM.out]; omega
      have hl1 := HPY.out
      rw [hem] at hl1
      have hb := H1.out.beside (v' := .slice (some ⟨g', 0, none⟩) ((posL vv pre).length + 1) cap') H2.out (by omega) (HAP.out) HV.out HY.out.2
      refine ⟨(HG3.out.keeps _).trans (HX.out.2.1.from _), (Below.mono HG3.out HBW.out.size).trans HX.out.2.2, ?_, (HBW.out.trans (Below.mono HG3.out HBW.out.size)).trans HX.out.2.2⟩
      unfold Between
      rw [hl1, HNN.out]
      exact ⟨_, vu, _, xu, HX.out.1, hb, apart_of HY.out.1 H2.out (by simp) HAP.out⟩
  case done =>
    rintro D ys W hD rfl ⟨⟨vo, vu, xo, xu, h1, h2, hap⟩, hBW⟩ hK
    have hpl := posL_len vv (idxs vv 6)
    have hnl := negL_len vv (idxs vv 6)
    have hil := idxs_len vv 6
    have M1 := Lib.hid (half_mul h1 (by omega) (pos_lim hv))
    have M2 := Lib.hid (half_mul h2 (by omega) (neg_lim hv))
    have HK := Lib.hid hK; have HBW := Lib.hid hBW; have HD := Lib.hid hD
    have HSZ := Lib.hid (And.intro s1 hst)
    have hS0 : W.cell? ⟨w.heap.size + 1, 0, none⟩ = some vo ∧ W.cell? ⟨w.heap.size + 1 + 1, 0, none⟩ = some vu ∧ Gr W W := ⟨h1.box.cell, h2.box.cell, Gr.refl _⟩
    have HS0 := Lib.hid hS0
    have hlb : w.heap.size + 1 + 1 < W.heap.size := h2.box.lt
    clear hK hBW hD h1 h2 hap s1 s2 s3 s5 hst hi hz0 hz1 hz2 hS0
    gi_wp2_with fail
    refine wpIn_wide.2 ?_
    have SG := Lib.hid (fun (wx : World) (g : Gr W wx) => (⟨(Below.cell (p := ⟨w.heap.size + 1, 0, none⟩) g (by simp; omega)).trans HS0.out.1, (Below.cell (p := ⟨w.heap.size + 1 + 1, 0, none⟩) g (by simp; omega)).trans HS0.out.2.1, g⟩ : wx.cell? ⟨w.heap.size + 1, 0, none⟩ = some vo ∧ wx.cell? ⟨w.heap.size + 1 + 1, 0, none⟩ = some vu ∧ Gr W wx))
    have hG := Gr.refl W
    go_region_held3 (fun wx => wx.cell? ⟨w.heap.size + 1, 0, none⟩ = some vo ∧ wx.cell? ⟨w.heap.size + 1 + 1, 0, none⟩ = some vu ∧ Gr W wx) ((first | exact SG.out _ hG | exact SG.out _ hG.drew))
      (first
        | (go_at_call 57; (with_reducible refine (M1.out _ (by first | exact hG | exact hG.drew)).mono ?_); rintro e w' ⟨va, rfl, hva, hb⟩; have HVA := Lib.hid hva; have HB1 := Lib.hid hb; have hG := (show Gr W w' by first | exact hG.trans hb | exact hG.drew.trans hb); clear hva hb)
        | (go_at_call 57; (with_reducible refine (M2.out _ (by first | exact hG | exact hG.drew)).mono ?_); rintro e w' ⟨vb, rfl, hvb, hb⟩; have HVB := Lib.hid hvb; have HB2 := Lib.hid hb; have hG := (show Gr W w' by first | exact hG.trans hb | exact hG.drew.trans hb); clear hvb hb))
    have hK' := (Below.block hG D (Array.getElem?_eq_some_iff.1 HK.out).1).trans HK.out
    have HVA := Lib.hid (HVA.out.keep HB2.out)
    have HGG := Lib.hid hG
    clear hG HB2 HB1 HS0 SG
    gi_wp2
    refine ⟨by simp, .inl ⟨_, _, rfl, run_takeDeferred hK', ?_⟩⟩
    have hput := Go.grownBy_putObj' w' D (.deferred none)
    have hno : ∀ r, some D = some r → ∀ x, w'.cell? ⟨r, 0, none⟩ ≠ some (.int .u32 x) := by
      intro r e x hx
      cases e
      obtain ⟨o', ho', hc'⟩ := cells_of_cell hx
      rw [hK'] at ho'; cases ho'; cases hc'
    refine ⟨.tuple #[va, vb], by simp [results, Tryz.f35, go_sem], va, vb, rfl, ?_, ?_, ?_⟩
    · have := HVA.out.grown hput hno
      rw [pos_num] at this
      exact this
    · have := HVB.out.grown hput hno
      rw [neg_den] at this
      exact this
    · exact (HBW.out.trans (Below.mono HGG.out (by omega))).trans (belowK_b (w := w) (Nat.le_refl _) w' D _ _ (by have := HD.out; have := HSZ.out.1; omega) hK' rfl rfl)
  case stop =>
    rintro D c pre W _ _ h _
    exact h.elim
end Go.Proofs.YtelhmdhhabgihaaGreatDoor
