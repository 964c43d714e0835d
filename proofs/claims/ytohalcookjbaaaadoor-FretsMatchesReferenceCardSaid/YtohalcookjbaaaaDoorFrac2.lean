/-
  pitch.fraction: what the two lists of powers are, between two rounds.
-/
import Derived.Test.YtohalcookjbaaaaDoorFrac1
namespace Go.Proofs.YtohalcookjbaaaaDoor
open Go.RowKit Go.Shelf
attribute [local go_sem] Oper.semAt_some

theorem Gr.grown {w w' : World} (h : Gr w w') : w.grownBy w' none := ⟨h.os, h.tape, h.output, h.size, fun k hk _ => h.block k hk⟩
theorem Gr.keeps {w w' : World} (h : Gr w w') (B : Nat) : KeepsFrom B w w' := KeepsFrom.of_grownBy h.grown (fun _ e => by cases e)
theorem Lay.grown {W W' : World} {row : Option Nat} {b n c : Nat} {u : Nat → Int} {N : Int} (h : Lay W b n c u N) (hg : W.grownBy W' row) (hr : ∀ r, row = some r → ∀ x, W.cell? ⟨r, 0, none⟩ ≠ some (.int .u32 x)) : Lay W' b n c u N := by
  refine ⟨Nat.lt_of_lt_of_le h.lt hg.size, h.le, h.nc, h.cc, fun i hi => ?_, h.inb, h.val, h.norm⟩
  refine hg.cell (h.cell i hi) fun e => ?_
  exact hr b e.symm _ (h.cell 0 (by omega))
theorem IsNat.grown {W W' : World} {row : Option Nat} {v : Value} {N : Int} (h : IsNat W v N) (hg : W.grownBy W' row) (hr : ∀ r, row = some r → ∀ x, W.cell? ⟨r, 0, none⟩ ≠ some (.int .u32 x)) : IsNat W' v N := by
  obtain ⟨b, n, c, u, rfl, hl⟩ := h
  exact ⟨b, n, c, u, rfl, hl.grown hg hr⟩

/-- A variable that holds a slice of the call's own: natural numbers, l. -/
structure Half (n₀ B : Nat) (W : World) (v : Value) (xs : List Value) (l : List Int) : Prop where
  box : Boxed W B 86 v
  row : W.ownsRow n₀ 74 1 v l.length xs
  nat : ∀ (i : Nat) (x : Value), xs[i]? = some x → ∃ N, l[i]? = some N ∧ IsNat W x N
  nil : v = .slice none 0 0 ↔ l = []
theorem Half.head {n₀ B : Nat} {W : World} {v : Value} {xs : List Value} {l : List Int} (h : Half n₀ B W v xs l) {g : Nat} (hg : v.ownBlock = some g) (x : Int) : W.cell? ⟨g, 0, none⟩ ≠ some (.int .u32 x) := by
  have hl : l ≠ [] := fun e => by rw [h.nil.2 e] at hg; cases hg
  have hlen : 0 < l.length := List.length_pos_iff.2 hl
  have hx : xs.length = l.length := by have := h.row.1; omega
  have h0 : xs[0]? = some xs[0] := List.getElem?_eq_getElem (by omega)
  have hc := h.row.cells hg 0 _ h0
  obtain ⟨N, _, b, n, c, u, e, _⟩ := h.nat 0 _ h0
  rw [e] at hc
  have ha : (⟨g, 0, none⟩ : Addr).add 0 = ⟨g, 0, none⟩ := rfl
  rw [ha] at hc
  rw [hc]
  simp
theorem Half.kept {n₀ B : Nat} {W W' : World} {v : Value} {xs : List Value} {l : List Int} {row : Option Nat} (h : Half n₀ B W v xs l) (hg : W.grownBy W' row)
    (hr : ∀ r, row = some r → r ≠ B ∧ v.ownBlock ≠ some r ∧ ∀ x, W.cell? ⟨r, 0, none⟩ ≠ some (.int .u32 x)) : Half n₀ B W' v xs l := by
  refine ⟨h.box.kept hg fun e => (hr B e.symm).1 rfl, h.row.kept hg ?_, fun i x hx => ?_, h.nil⟩
  · cases e : v.ownBlock with
    | none => exact .inl rfl
    | some g => exact .inr fun e' => (hr g (by rw [← e']) ).2.1 e
  · obtain ⟨N, hN, hx'⟩ := h.nat i x hx
    exact ⟨N, hN, hx'.grown hg fun r e => (hr r e).2.2⟩
theorem Half.keep {n₀ B : Nat} {W W' : World} {v : Value} {xs : List Value} {l : List Int} (h : Half n₀ B W v xs l) (hg : Gr W W') : Half n₀ B W' v xs l := h.kept hg.grown fun _ e => by cases e
theorem Half.own {n₀ B : Nat} {W W' : World} {v : Value} {xs : List Value} {l : List Int} {row : Option Nat} (h : Half n₀ B W v xs l) (hg : W.grownBy W' row)
    (hr : ∀ r, row = some r → ∃ o : Obj, W.heap[r]? = some o ∧ o.isCells = false) : Half n₀ B W' v xs l := by
  refine h.kept hg fun r e => ?_
  obtain ⟨o, ho, hc⟩ := hr r e
  refine ⟨?_, ?_, ?_⟩
  · rintro rfl
    rw [show W.heap[r]? = _ from h.box] at ho; cases ho; cases hc
  · intro e'
    rcases h.row.2 with ⟨hv, _⟩ | ⟨g, cap, cur, hv, _, hgb, _⟩
    · rw [hv] at e'; cases e'
    · rw [hv] at e'; simp [Value.ownBlock] at e'; subst e'
      rw [hgb] at ho; cases ho; cases hc
  · intro x hx
    obtain ⟨o', ho', hc'⟩ := cells_of_cell hx
    rw [ho] at ho'; cases ho'; rw [hc] at hc'; cases hc'
theorem Half.start (n₀ B : Nat) (W : World) (h : Boxed W B 86 (.slice none 0 0)) : Half n₀ B W (.slice none 0 0) [] [] :=
  ⟨h, World.ownsRow_nil _ _ _ _, fun i x hx => by simp at hx, by simp⟩
/-- The variable's slice has been appended to, and stored back. -/
theorem Half.push {n₀ B : Nat} {W w1 : World} {v v' : Value} {xs : List Value} {l : List Int} {x : Value} {N : Int} {tmp : Obj} (h : Half n₀ B W v xs l) (hx : IsNat W x N) (hn₀ : n₀ ≤ W.heap.size) (hB : n₀ ≤ B)
    (hown' : w1.ownsRow n₀ 74 1 v' (l.length + 1) (xs ++ [x])) (hgrow : (W.alloc tmp).grownBy w1 v.ownBlock) :
    Boxed w1 B 86 v ∧ Half n₀ B (w1.setCell ⟨B, 0, none⟩ v') v' (xs ++ [x]) (l ++ [N]) ∧ KeepsOthers W (w1.setCell ⟨B, 0, none⟩ v') ∧ Below n₀ W (w1.setCell ⟨B, 0, none⟩ v') := by
  obtain ⟨hv1, hv2, hr2, hk2, hb2⟩ := h.box.appended (by decide) h.row hn₀ hB hown' hgrow
  have hA : Half n₀ B (W.alloc tmp) v xs l := h.keep ((Gr.refl W).alloc tmp)
  have hxA : IsNat (W.alloc tmp) x N := hx.keep ((Gr.refl W).alloc tmp)
  have hrow1 : ∀ r, v.ownBlock = some r → ∀ y, (W.alloc tmp).cell? ⟨r, 0, none⟩ ≠ some (.int .u32 y) := fun r e y => hA.head e y
  have hbx : ∀ r, some B = some r → ∀ y, w1.cell? ⟨r, 0, none⟩ ≠ some (.int .u32 y) := by
    intro r e y
    cases e
    rw [hv1.cell]
    intro e2
    rcases h.row.2 with ⟨e', _⟩ | ⟨g, cap, cur, e', _⟩ <;> rw [e'] at e2 <;> simp at e2
  have two : ∀ y M, IsNat (W.alloc tmp) y M → IsNat (w1.setCell ⟨B, 0, none⟩ v') y M := fun y M hy => (hy.grown hgrow hrow1).grown (Go.grownBy_setCell' w1 B v') hbx
  refine ⟨hv1, ⟨hv2, by simpa using hr2, fun i y hy => ?_, ?_⟩, hk2, hb2⟩
  · have hlen : xs.length = l.length := by have := h.row.1; omega
    rcases Nat.lt_or_ge i xs.length with hi | hi
    · rw [List.getElem?_append_left hi] at hy
      obtain ⟨M, hM, hyM⟩ := hA.nat i y hy
      exact ⟨M, by rw [List.getElem?_append_left (by omega)]; exact hM, two y M hyM⟩
    · rw [List.getElem?_append_right hi] at hy
      have hi2 : i - xs.length = 0 := by
        rcases Nat.eq_zero_or_pos (i - xs.length) with h0 | h0
        · exact h0
        · rw [List.getElem?_eq_none (by simp; omega)] at hy; cases hy
      rw [hi2] at hy
      obtain rfl : x = y := by simpa using hy
      exact ⟨N, by rw [List.getElem?_append_right (by omega), ← hlen, hi2]; rfl, two x N hxA⟩
  · obtain ⟨g', cap', rfl⟩ := ownsRow_succ hown'
    simp
/-- The other variable's slice, where the first one has been appended to and stored back. -/
theorem Half.beside {n₀ B B' : Nat} {W w1 : World} {v v' v2 : Value} {xs xs2 : List Value} {l l2 : List Int} {tmp : Obj} (h : Half n₀ B W v xs l) (k : Half n₀ B' W v2 xs2 l2) (hne : B ≠ B') (hap : v.ownBlock = none ∨ v.ownBlock ≠ v2.ownBlock)
    (hv1 : Boxed w1 B 86 v) (hgrow : (W.alloc tmp).grownBy w1 v.ownBlock) : Half n₀ B' (w1.setCell ⟨B, 0, none⟩ v') v2 xs2 l2 := by
  have hA : Half n₀ B (W.alloc tmp) v xs l := h.keep ((Gr.refl W).alloc tmp)
  have kA : Half n₀ B' (W.alloc tmp) v2 xs2 l2 := k.keep ((Gr.refl W).alloc tmp)
  have k1 : Half n₀ B' w1 v2 xs2 l2 := kA.kept hgrow fun r e => ⟨?_, ?_, fun x => hA.head e x⟩
  · refine k1.kept (Go.grownBy_setCell' w1 B v') fun r e => ?_
    cases e
    refine ⟨hne, fun e' => ?_, fun x => ?_⟩
    · exact hv1.not_row (by decide) k1.row e'.symm
    · rw [hv1.cell]
      intro e2
      rcases h.row.2 with ⟨e', _⟩ | ⟨g, cap, cur, e', _⟩ <;> rw [e'] at e2 <;> simp at e2
  · rintro rfl
    exact kA.box.not_row (by decide) hA.row e.symm
  · intro e'
    rcases hap with hap | hap
    · rw [hap] at e; cases e
    · exact hap (e.trans e'.symm)
theorem apart_of {W W0 : World} {n₀ B' : Nat} {v v' v2 : Value} {xs2 : List Value} {l2 : List Int} (hw : Whence W0 v v') (k : Half n₀ B' W v2 xs2 l2) (hz : W.heap.size ≤ W0.heap.size) (hap : v.ownBlock = none ∨ v.ownBlock ≠ v2.ownBlock) : v'.ownBlock = none ∨ v'.ownBlock ≠ v2.ownBlock := by
  rcases hw with h | ⟨g, hg, hs⟩
  · rw [h]; exact hap
  · refine .inr fun e => ?_
    have := (k.row.lt g (by rw [← e]; exact hg)).2
    omega
theorem apart_sym {W : World} {n₀ : Nat} {v v2 : Value} {n n2 : Nat} {xs xs2 : List Value} (h : v.ownBlock = none ∨ v.ownBlock ≠ v2.ownBlock) (_ : W.ownsRow n₀ 74 1 v n xs) (_ : W.ownsRow n₀ 74 1 v2 n2 xs2) : v2.ownBlock = none ∨ v2.ownBlock ≠ v.ownBlock := by
  rcases h with h | h
  · rw [h]; cases v2.ownBlock <;> simp
  · exact .inr fun e => h e.symm
theorem apart_of2 {W W0 w1 : World} {n₀ B B' : Nat} {v v' v2 : Value} {xs xs2 : List Value} {l l2 : List Int} (hw : Whence W0 v v') (k : Half n₀ B' W v2 xs2 l2) (hz : W.heap.size ≤ W0.heap.size) (hap : v2.ownBlock = none ∨ v2.ownBlock ≠ v.ownBlock) (_ : Half n₀ B w1 v' xs l) : v2.ownBlock = none ∨ v2.ownBlock ≠ v'.ownBlock := by
  rcases hw with h | ⟨g, hg, hs⟩
  · rw [h]; exact hap
  · refine .inr fun e => ?_
    have := (k.row.lt g (by rw [e]; exact hg)).2
    omega
end Go.Proofs.YtohalcookjbaaaaDoor
