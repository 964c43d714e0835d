/-
  The closure of brass.Best.
-/
import Derived.Test.YtbaopniofhbjdaaDoorFind3
import Derived.Test.YtbaopniofhbjdaaDoorDist
import Derived.Test.YtbaopniofhbjdaaDoorMore
import Derived.Deep.DeepCutAuto
namespace Go.Proofs.YtbaopniofhbjdaaDoor
open Go.RowKit Go.Shelf
attribute [local go_sem] Oper.semAt_some

/-- Six numbers in a block. -/
structure SixAt (W : World) (B : Nat) (a0 a1 a2 a3 a4 a5 : Int) : Prop where
  c0 : W.cell? ⟨B, 0, none⟩ = some (.int .i64 a0)
  c1 : W.cell? ⟨B, 1, none⟩ = some (.int .i64 a1)
  c2 : W.cell? ⟨B, 2, none⟩ = some (.int .i64 a2)
  c3 : W.cell? ⟨B, 3, none⟩ = some (.int .i64 a3)
  c4 : W.cell? ⟨B, 4, none⟩ = some (.int .i64 a4)
  c5 : W.cell? ⟨B, 5, none⟩ = some (.int .i64 a5)
theorem SixAt.keep {W W' : World} {B : Nat} {a0 a1 a2 a3 a4 a5 : Int} (h : SixAt W B a0 a1 a2 a3 a4 a5) {N : Nat} (g : Below N W W') (hB : B < N) : SixAt W' B a0 a1 a2 a3 a4 a5 :=
  have k : ∀ o, W'.cell? ⟨B, o, none⟩ = W.cell? ⟨B, o, none⟩ := fun o => Below.cell (p := ⟨B, o, none⟩) g hB
  ⟨(k _).trans h.c0, (k _).trans h.c1, (k _).trans h.c2, (k _).trans h.c3, (k _).trans h.c4, (k _).trans h.c5⟩
/-- The best blow so far, and its distance. -/
structure BestAt (W : World) (Bb Bl : Nat) (x s l0 l1 l2 l3 l4 l5 : Int) : Prop where
  lt : Bb < Bl
  sz : Bl < W.heap.size
  b0 : W.cell? ⟨Bb, 0, none⟩ = some (.int .i64 x)
  b1 : W.cell? ⟨Bb, 1, none⟩ = some (.int .i64 s)
  bf : ∀ o, W.frozen? ⟨Bb, o, none⟩ = false
  six : SixAt W Bl l0 l1 l2 l3 l4 l5
  lf : ∀ o, W.frozen? ⟨Bl, o, none⟩ = false
theorem BestAt.keep {W W' : World} {Bb Bl : Nat} {x s l0 l1 l2 l3 l4 l5 : Int} (h : BestAt W Bb Bl x s l0 l1 l2 l3 l4 l5) (g : Gr W W') : BestAt W' Bb Bl x s l0 l1 l2 l3 l4 l5 :=
  have h1 := h.lt
  have h2 := h.sz
  have k : ∀ o, W'.cell? ⟨Bb, o, none⟩ = W.cell? ⟨Bb, o, none⟩ := fun o => Below.cell (p := ⟨Bb, o, none⟩) g (show Bb < W.heap.size by omega)
  ⟨h1, Nat.lt_of_lt_of_le h2 g.le, (k _).trans h.b0, (k _).trans h.b1, fun o => (Below.frozen (p := ⟨Bb, o, none⟩) g (show Bb < W.heap.size by omega)).trans (h.bf o), h.six.keep g h2, fun o => (Below.frozen (p := ⟨Bl, o, none⟩) g h2).trans (h.lf o)⟩

/-- What the closure holds. -/
structure TryW (b0 b1 b2 b3 b4 b5 most tol a0 a1 a2 a3 a4 a5 : Int) (A : Option Addr) (n c : Nat) (Bh Ba : Nat) (W : World) : Prop where
  horn : HornAt W Bh b0 b1 b2 b3 b4 b5 (.slice A n c) most tol
  at_ : SixAt W Ba a0 a1 a2 a3 a4 a5
  h1 : Bh < W.heap.size
  h2 : Ba < W.heap.size
theorem TryW.keep {b0 b1 b2 b3 b4 b5 most tol a0 a1 a2 a3 a4 a5 : Int} {A : Option Addr} {n c : Nat} {Bh Ba : Nat} {W W' : World} (h : TryW b0 b1 b2 b3 b4 b5 most tol a0 a1 a2 a3 a4 a5 A n c Bh Ba W) {N : Nat} (g : Below N W W') (k1 : Bh < N) (k2 : Ba < N) : TryW b0 b1 b2 b3 b4 b5 most tol a0 a1 a2 a3 a4 a5 A n c Bh Ba W' :=
  ⟨h.horn.keep g k1, h.at_.keep g k2, Nat.lt_of_lt_of_le h.h1 g.size, Nat.lt_of_lt_of_le h.h2 g.size⟩

/-- What the closure's first statement reads stays as it is over whatever leaves the old blocks alone. -/
theorem try_keep (b0 b1 b2 b3 b4 b5 most tol a0 a1 a2 a3 a4 a5 x s : Int) (A : Option Addr) (n c Bh Ba : Nat) (w : World) (i1 : Bh < w.heap.size) (i2 : Ba < w.heap.size) (X Y : World) (hX : Gr w X ∧ X.cell? ⟨Bh, 0, none⟩ = some (.int .i64 b0) ∧ X.cell? ⟨Bh, 1, none⟩ = some (.int .i64 b1) ∧ X.cell? ⟨Bh, 2, none⟩ = some (.int .i64 b2) ∧ X.cell? ⟨Bh, 3, none⟩ = some (.int .i64 b3) ∧ X.cell? ⟨Bh, 4, none⟩ = some (.int .i64 b4) ∧ X.cell? ⟨Bh, 5, none⟩ = some (.int .i64 b5) ∧ X.cell? ⟨Bh, 6, none⟩ = some (.slice A n c) ∧ X.cell? ⟨Bh, 7, none⟩ = some (.int .i64 most) ∧ X.cell? ⟨Bh, 8, none⟩ = some (.int .i64 tol) ∧ X.cell? ⟨Ba, 0, none⟩ = some (.int .i64 a0) ∧ X.cell? ⟨Ba, 1, none⟩ = some (.int .i64 a1) ∧ X.cell? ⟨Ba, 2, none⟩ = some (.int .i64 a2) ∧ X.cell? ⟨Ba, 3, none⟩ = some (.int .i64 a3) ∧ X.cell? ⟨Ba, 4, none⟩ = some (.int .i64 a4) ∧ X.cell? ⟨Ba, 5, none⟩ = some (.int .i64 a5) ∧ X.cell? ⟨w.heap.size, 0, none⟩ = some (.int .i64 x) ∧ X.cell? ⟨w.heap.size, 1, none⟩ = some (.int .i64 s) ∧ w.heap.size < X.heap.size) (h : Below (w.heap.size + 1) X Y) :
    Gr w Y ∧ Y.cell? ⟨Bh, 0, none⟩ = some (.int .i64 b0) ∧ Y.cell? ⟨Bh, 1, none⟩ = some (.int .i64 b1) ∧ Y.cell? ⟨Bh, 2, none⟩ = some (.int .i64 b2) ∧ Y.cell? ⟨Bh, 3, none⟩ = some (.int .i64 b3) ∧ Y.cell? ⟨Bh, 4, none⟩ = some (.int .i64 b4) ∧ Y.cell? ⟨Bh, 5, none⟩ = some (.int .i64 b5) ∧ Y.cell? ⟨Bh, 6, none⟩ = some (.slice A n c) ∧ Y.cell? ⟨Bh, 7, none⟩ = some (.int .i64 most) ∧ Y.cell? ⟨Bh, 8, none⟩ = some (.int .i64 tol) ∧ Y.cell? ⟨Ba, 0, none⟩ = some (.int .i64 a0) ∧ Y.cell? ⟨Ba, 1, none⟩ = some (.int .i64 a1) ∧ Y.cell? ⟨Ba, 2, none⟩ = some (.int .i64 a2) ∧ Y.cell? ⟨Ba, 3, none⟩ = some (.int .i64 a3) ∧ Y.cell? ⟨Ba, 4, none⟩ = some (.int .i64 a4) ∧ Y.cell? ⟨Ba, 5, none⟩ = some (.int .i64 a5) ∧ Y.cell? ⟨w.heap.size, 0, none⟩ = some (.int .i64 x) ∧ Y.cell? ⟨w.heap.size, 1, none⟩ = some (.int .i64 s) ∧ w.heap.size < Y.heap.size := by
  obtain ⟨g, z0, z1, z2, z3, z4, z5, z6, z7, z8, r0, r1, r2, r3, r4, r5, t0, t1, hx⟩ := hX
  have hx2 := h.size
  have k1 : ∀ o, Y.cell? ⟨Bh, o, none⟩ = X.cell? ⟨Bh, o, none⟩ := fun o => Below.cell (p := ⟨Bh, o, none⟩) h (show Bh < w.heap.size + 1 by omega)
  have k2 : ∀ o, Y.cell? ⟨Ba, o, none⟩ = X.cell? ⟨Ba, o, none⟩ := fun o => Below.cell (p := ⟨Ba, o, none⟩) h (show Ba < w.heap.size + 1 by omega)
  have k3 : ∀ o, Y.cell? ⟨w.heap.size, o, none⟩ = X.cell? ⟨w.heap.size, o, none⟩ := fun o => Below.cell (p := ⟨w.heap.size, o, none⟩) h (show w.heap.size < w.heap.size + 1 by omega)
  exact ⟨g.below h (by omega), (k1 _).trans z0, (k1 _).trans z1, (k1 _).trans z2, (k1 _).trans z3, (k1 _).trans z4, (k1 _).trans z5, (k1 _).trans z6, (k1 _).trans z7, (k1 _).trans z8, (k2 _).trans r0, (k2 _).trans r1, (k2 _).trans r2, (k2 _).trans r3, (k2 _).trans r4, (k2 _).trans r5, (k3 _).trans t0, (k3 _).trans t1, by omega⟩
theorem try_call (b0 b1 b2 b3 b4 b5 most tol a0 a1 a2 a3 a4 a5 x s : Int) (A : Option Addr) (n c Bh Ba : Nat) (w : World) (i1 : Bh < w.heap.size) (i2 : Ba < w.heap.size) (X Y : World) (hX : Gr w X ∧ X.cell? ⟨Bh, 0, none⟩ = some (.int .i64 b0) ∧ X.cell? ⟨Bh, 1, none⟩ = some (.int .i64 b1) ∧ X.cell? ⟨Bh, 2, none⟩ = some (.int .i64 b2) ∧ X.cell? ⟨Bh, 3, none⟩ = some (.int .i64 b3) ∧ X.cell? ⟨Bh, 4, none⟩ = some (.int .i64 b4) ∧ X.cell? ⟨Bh, 5, none⟩ = some (.int .i64 b5) ∧ X.cell? ⟨Bh, 6, none⟩ = some (.slice A n c) ∧ X.cell? ⟨Bh, 7, none⟩ = some (.int .i64 most) ∧ X.cell? ⟨Bh, 8, none⟩ = some (.int .i64 tol) ∧ X.cell? ⟨Ba, 0, none⟩ = some (.int .i64 a0) ∧ X.cell? ⟨Ba, 1, none⟩ = some (.int .i64 a1) ∧ X.cell? ⟨Ba, 2, none⟩ = some (.int .i64 a2) ∧ X.cell? ⟨Ba, 3, none⟩ = some (.int .i64 a3) ∧ X.cell? ⟨Ba, 4, none⟩ = some (.int .i64 a4) ∧ X.cell? ⟨Ba, 5, none⟩ = some (.int .i64 a5) ∧ X.cell? ⟨w.heap.size, 0, none⟩ = some (.int .i64 x) ∧ X.cell? ⟨w.heap.size, 1, none⟩ = some (.int .i64 s) ∧ w.heap.size < X.heap.size) (h : Gr X Y) :
    Gr w Y ∧ Y.cell? ⟨Bh, 0, none⟩ = some (.int .i64 b0) ∧ Y.cell? ⟨Bh, 1, none⟩ = some (.int .i64 b1) ∧ Y.cell? ⟨Bh, 2, none⟩ = some (.int .i64 b2) ∧ Y.cell? ⟨Bh, 3, none⟩ = some (.int .i64 b3) ∧ Y.cell? ⟨Bh, 4, none⟩ = some (.int .i64 b4) ∧ Y.cell? ⟨Bh, 5, none⟩ = some (.int .i64 b5) ∧ Y.cell? ⟨Bh, 6, none⟩ = some (.slice A n c) ∧ Y.cell? ⟨Bh, 7, none⟩ = some (.int .i64 most) ∧ Y.cell? ⟨Bh, 8, none⟩ = some (.int .i64 tol) ∧ Y.cell? ⟨Ba, 0, none⟩ = some (.int .i64 a0) ∧ Y.cell? ⟨Ba, 1, none⟩ = some (.int .i64 a1) ∧ Y.cell? ⟨Ba, 2, none⟩ = some (.int .i64 a2) ∧ Y.cell? ⟨Ba, 3, none⟩ = some (.int .i64 a3) ∧ Y.cell? ⟨Ba, 4, none⟩ = some (.int .i64 a4) ∧ Y.cell? ⟨Ba, 5, none⟩ = some (.int .i64 a5) ∧ Y.cell? ⟨w.heap.size, 0, none⟩ = some (.int .i64 x) ∧ Y.cell? ⟨w.heap.size, 1, none⟩ = some (.int .i64 s) ∧ w.heap.size < Y.heap.size := by
  refine try_keep b0 b1 b2 b3 b4 b5 most tol a0 a1 a2 a3 a4 a5 x s A n c Bh Ba w i1 i2 X Y hX (Below.mono h ?_)
  obtain ⟨g, z0, z1, z2, z3, z4, z5, z6, z7, z8, r0, r1, r2, r3, r4, r5, t0, t1, hx⟩ := hX
  exact hx
theorem try_size (b0 b1 b2 b3 b4 b5 most tol a0 a1 a2 a3 a4 a5 x s : Int) (A : Option Addr) (n c Bh Ba : Nat) (w : World) (X : World) (hX : Gr w X ∧ X.cell? ⟨Bh, 0, none⟩ = some (.int .i64 b0) ∧ X.cell? ⟨Bh, 1, none⟩ = some (.int .i64 b1) ∧ X.cell? ⟨Bh, 2, none⟩ = some (.int .i64 b2) ∧ X.cell? ⟨Bh, 3, none⟩ = some (.int .i64 b3) ∧ X.cell? ⟨Bh, 4, none⟩ = some (.int .i64 b4) ∧ X.cell? ⟨Bh, 5, none⟩ = some (.int .i64 b5) ∧ X.cell? ⟨Bh, 6, none⟩ = some (.slice A n c) ∧ X.cell? ⟨Bh, 7, none⟩ = some (.int .i64 most) ∧ X.cell? ⟨Bh, 8, none⟩ = some (.int .i64 tol) ∧ X.cell? ⟨Ba, 0, none⟩ = some (.int .i64 a0) ∧ X.cell? ⟨Ba, 1, none⟩ = some (.int .i64 a1) ∧ X.cell? ⟨Ba, 2, none⟩ = some (.int .i64 a2) ∧ X.cell? ⟨Ba, 3, none⟩ = some (.int .i64 a3) ∧ X.cell? ⟨Ba, 4, none⟩ = some (.int .i64 a4) ∧ X.cell? ⟨Ba, 5, none⟩ = some (.int .i64 a5) ∧ X.cell? ⟨w.heap.size, 0, none⟩ = some (.int .i64 x) ∧ X.cell? ⟨w.heap.size, 1, none⟩ = some (.int .i64 s) ∧ w.heap.size < X.heap.size) (Y : World) (h : Gr X Y) : w.heap.size < Y.heap.size := by
  obtain ⟨g, z0, z1, z2, z3, z4, z5, z6, z7, z8, r0, r1, r2, r3, r4, r5, t0, t1, hx⟩ := hX
  have := h.size
  omega
theorem try_alloc (b0 b1 b2 b3 b4 b5 most tol a0 a1 a2 a3 a4 a5 x s : Int) (A : Option Addr) (n c Bh Ba : Nat) (w : World) (i1 : Bh < w.heap.size) (i2 : Ba < w.heap.size) (X : World) (hX : Gr w X ∧ X.cell? ⟨Bh, 0, none⟩ = some (.int .i64 b0) ∧ X.cell? ⟨Bh, 1, none⟩ = some (.int .i64 b1) ∧ X.cell? ⟨Bh, 2, none⟩ = some (.int .i64 b2) ∧ X.cell? ⟨Bh, 3, none⟩ = some (.int .i64 b3) ∧ X.cell? ⟨Bh, 4, none⟩ = some (.int .i64 b4) ∧ X.cell? ⟨Bh, 5, none⟩ = some (.int .i64 b5) ∧ X.cell? ⟨Bh, 6, none⟩ = some (.slice A n c) ∧ X.cell? ⟨Bh, 7, none⟩ = some (.int .i64 most) ∧ X.cell? ⟨Bh, 8, none⟩ = some (.int .i64 tol) ∧ X.cell? ⟨Ba, 0, none⟩ = some (.int .i64 a0) ∧ X.cell? ⟨Ba, 1, none⟩ = some (.int .i64 a1) ∧ X.cell? ⟨Ba, 2, none⟩ = some (.int .i64 a2) ∧ X.cell? ⟨Ba, 3, none⟩ = some (.int .i64 a3) ∧ X.cell? ⟨Ba, 4, none⟩ = some (.int .i64 a4) ∧ X.cell? ⟨Ba, 5, none⟩ = some (.int .i64 a5) ∧ X.cell? ⟨w.heap.size, 0, none⟩ = some (.int .i64 x) ∧ X.cell? ⟨w.heap.size, 1, none⟩ = some (.int .i64 s) ∧ w.heap.size < X.heap.size) (o : Obj) :
    Gr w (X.alloc o) ∧ (X.alloc o).cell? ⟨Bh, 0, none⟩ = some (.int .i64 b0) ∧ (X.alloc o).cell? ⟨Bh, 1, none⟩ = some (.int .i64 b1) ∧ (X.alloc o).cell? ⟨Bh, 2, none⟩ = some (.int .i64 b2) ∧ (X.alloc o).cell? ⟨Bh, 3, none⟩ = some (.int .i64 b3) ∧ (X.alloc o).cell? ⟨Bh, 4, none⟩ = some (.int .i64 b4) ∧ (X.alloc o).cell? ⟨Bh, 5, none⟩ = some (.int .i64 b5) ∧ (X.alloc o).cell? ⟨Bh, 6, none⟩ = some (.slice A n c) ∧ (X.alloc o).cell? ⟨Bh, 7, none⟩ = some (.int .i64 most) ∧ (X.alloc o).cell? ⟨Bh, 8, none⟩ = some (.int .i64 tol) ∧ (X.alloc o).cell? ⟨Ba, 0, none⟩ = some (.int .i64 a0) ∧ (X.alloc o).cell? ⟨Ba, 1, none⟩ = some (.int .i64 a1) ∧ (X.alloc o).cell? ⟨Ba, 2, none⟩ = some (.int .i64 a2) ∧ (X.alloc o).cell? ⟨Ba, 3, none⟩ = some (.int .i64 a3) ∧ (X.alloc o).cell? ⟨Ba, 4, none⟩ = some (.int .i64 a4) ∧ (X.alloc o).cell? ⟨Ba, 5, none⟩ = some (.int .i64 a5) ∧ (X.alloc o).cell? ⟨w.heap.size, 0, none⟩ = some (.int .i64 x) ∧ (X.alloc o).cell? ⟨w.heap.size, 1, none⟩ = some (.int .i64 s) ∧ w.heap.size < (X.alloc o).heap.size := try_call b0 b1 b2 b3 b4 b5 most tol a0 a1 a2 a3 a4 a5 x s A n c Bh Ba w i1 i2 X (X.alloc o) hX ((Gr.refl X).alloc o)
theorem try_set (b0 b1 b2 b3 b4 b5 most tol a0 a1 a2 a3 a4 a5 x s : Int) (A : Option Addr) (n c Bh Ba : Nat) (w : World) (i1 : Bh < w.heap.size) (i2 : Ba < w.heap.size) (X : World) (hX : Gr w X ∧ X.cell? ⟨Bh, 0, none⟩ = some (.int .i64 b0) ∧ X.cell? ⟨Bh, 1, none⟩ = some (.int .i64 b1) ∧ X.cell? ⟨Bh, 2, none⟩ = some (.int .i64 b2) ∧ X.cell? ⟨Bh, 3, none⟩ = some (.int .i64 b3) ∧ X.cell? ⟨Bh, 4, none⟩ = some (.int .i64 b4) ∧ X.cell? ⟨Bh, 5, none⟩ = some (.int .i64 b5) ∧ X.cell? ⟨Bh, 6, none⟩ = some (.slice A n c) ∧ X.cell? ⟨Bh, 7, none⟩ = some (.int .i64 most) ∧ X.cell? ⟨Bh, 8, none⟩ = some (.int .i64 tol) ∧ X.cell? ⟨Ba, 0, none⟩ = some (.int .i64 a0) ∧ X.cell? ⟨Ba, 1, none⟩ = some (.int .i64 a1) ∧ X.cell? ⟨Ba, 2, none⟩ = some (.int .i64 a2) ∧ X.cell? ⟨Ba, 3, none⟩ = some (.int .i64 a3) ∧ X.cell? ⟨Ba, 4, none⟩ = some (.int .i64 a4) ∧ X.cell? ⟨Ba, 5, none⟩ = some (.int .i64 a5) ∧ X.cell? ⟨w.heap.size, 0, none⟩ = some (.int .i64 x) ∧ X.cell? ⟨w.heap.size, 1, none⟩ = some (.int .i64 s) ∧ w.heap.size < X.heap.size) (b : Nat) (hb : w.heap.size < b) (v0 v1 v2 v3 v4 v5 : Value) :
    Gr w ((((((X.setCell ⟨b, 0, none⟩ v0).setCell ⟨b, 1, none⟩ v1).setCell ⟨b, 2, none⟩ v2).setCell ⟨b, 3, none⟩ v3).setCell ⟨b, 4, none⟩ v4).setCell ⟨b, 5, none⟩ v5) ∧ ((((((X.setCell ⟨b, 0, none⟩ v0).setCell ⟨b, 1, none⟩ v1).setCell ⟨b, 2, none⟩ v2).setCell ⟨b, 3, none⟩ v3).setCell ⟨b, 4, none⟩ v4).setCell ⟨b, 5, none⟩ v5).cell? ⟨Bh, 0, none⟩ = some (.int .i64 b0) ∧ ((((((X.setCell ⟨b, 0, none⟩ v0).setCell ⟨b, 1, none⟩ v1).setCell ⟨b, 2, none⟩ v2).setCell ⟨b, 3, none⟩ v3).setCell ⟨b, 4, none⟩ v4).setCell ⟨b, 5, none⟩ v5).cell? ⟨Bh, 1, none⟩ = some (.int .i64 b1) ∧ ((((((X.setCell ⟨b, 0, none⟩ v0).setCell ⟨b, 1, none⟩ v1).setCell ⟨b, 2, none⟩ v2).setCell ⟨b, 3, none⟩ v3).setCell ⟨b, 4, none⟩ v4).setCell ⟨b, 5, none⟩ v5).cell? ⟨Bh, 2, none⟩ = some (.int .i64 b2) ∧ ((((((X.setCell ⟨b, 0, none⟩ v0).setCell ⟨b, 1, none⟩ v1).setCell ⟨b, 2, none⟩ v2).setCell ⟨b, 3, none⟩ v3).setCell ⟨b, 4, none⟩ v4).setCell ⟨b, 5, none⟩ v5).cell? ⟨Bh, 3, none⟩ = some (.int .i64 b3) ∧ ((((((X.setCell ⟨b, 0, none⟩ v0).setCell ⟨b, 1, none⟩ v1).setCell ⟨b, 2, none⟩ v2).setCell ⟨b, 3, none⟩ v3).setCell ⟨b, 4, none⟩ v4).setCell ⟨b, 5, none⟩ v5).cell? ⟨Bh, 4, none⟩ = some (.int .i64 b4) ∧ ((((((X.setCell ⟨b, 0, none⟩ v0).setCell ⟨b, 1, none⟩ v1).setCell ⟨b, 2, none⟩ v2).setCell ⟨b, 3, none⟩ v3).setCell ⟨b, 4, none⟩ v4).setCell ⟨b, 5, none⟩ v5).cell? ⟨Bh, 5, none⟩ = some (.int .i64 b5) ∧ ((((((X.setCell ⟨b, 0, none⟩ v0).setCell ⟨b, 1, none⟩ v1).setCell ⟨b, 2, none⟩ v2).setCell ⟨b, 3, none⟩ v3).setCell ⟨b, 4, none⟩ v4).setCell ⟨b, 5, none⟩ v5).cell? ⟨Bh, 6, none⟩ = some (.slice A n c) ∧ ((((((X.setCell ⟨b, 0, none⟩ v0).setCell ⟨b, 1, none⟩ v1).setCell ⟨b, 2, none⟩ v2).setCell ⟨b, 3, none⟩ v3).setCell ⟨b, 4, none⟩ v4).setCell ⟨b, 5, none⟩ v5).cell? ⟨Bh, 7, none⟩ = some (.int .i64 most) ∧ ((((((X.setCell ⟨b, 0, none⟩ v0).setCell ⟨b, 1, none⟩ v1).setCell ⟨b, 2, none⟩ v2).setCell ⟨b, 3, none⟩ v3).setCell ⟨b, 4, none⟩ v4).setCell ⟨b, 5, none⟩ v5).cell? ⟨Bh, 8, none⟩ = some (.int .i64 tol) ∧ ((((((X.setCell ⟨b, 0, none⟩ v0).setCell ⟨b, 1, none⟩ v1).setCell ⟨b, 2, none⟩ v2).setCell ⟨b, 3, none⟩ v3).setCell ⟨b, 4, none⟩ v4).setCell ⟨b, 5, none⟩ v5).cell? ⟨Ba, 0, none⟩ = some (.int .i64 a0) ∧ ((((((X.setCell ⟨b, 0, none⟩ v0).setCell ⟨b, 1, none⟩ v1).setCell ⟨b, 2, none⟩ v2).setCell ⟨b, 3, none⟩ v3).setCell ⟨b, 4, none⟩ v4).setCell ⟨b, 5, none⟩ v5).cell? ⟨Ba, 1, none⟩ = some (.int .i64 a1) ∧ ((((((X.setCell ⟨b, 0, none⟩ v0).setCell ⟨b, 1, none⟩ v1).setCell ⟨b, 2, none⟩ v2).setCell ⟨b, 3, none⟩ v3).setCell ⟨b, 4, none⟩ v4).setCell ⟨b, 5, none⟩ v5).cell? ⟨Ba, 2, none⟩ = some (.int .i64 a2) ∧ ((((((X.setCell ⟨b, 0, none⟩ v0).setCell ⟨b, 1, none⟩ v1).setCell ⟨b, 2, none⟩ v2).setCell ⟨b, 3, none⟩ v3).setCell ⟨b, 4, none⟩ v4).setCell ⟨b, 5, none⟩ v5).cell? ⟨Ba, 3, none⟩ = some (.int .i64 a3) ∧ ((((((X.setCell ⟨b, 0, none⟩ v0).setCell ⟨b, 1, none⟩ v1).setCell ⟨b, 2, none⟩ v2).setCell ⟨b, 3, none⟩ v3).setCell ⟨b, 4, none⟩ v4).setCell ⟨b, 5, none⟩ v5).cell? ⟨Ba, 4, none⟩ = some (.int .i64 a4) ∧ ((((((X.setCell ⟨b, 0, none⟩ v0).setCell ⟨b, 1, none⟩ v1).setCell ⟨b, 2, none⟩ v2).setCell ⟨b, 3, none⟩ v3).setCell ⟨b, 4, none⟩ v4).setCell ⟨b, 5, none⟩ v5).cell? ⟨Ba, 5, none⟩ = some (.int .i64 a5) ∧ ((((((X.setCell ⟨b, 0, none⟩ v0).setCell ⟨b, 1, none⟩ v1).setCell ⟨b, 2, none⟩ v2).setCell ⟨b, 3, none⟩ v3).setCell ⟨b, 4, none⟩ v4).setCell ⟨b, 5, none⟩ v5).cell? ⟨w.heap.size, 0, none⟩ = some (.int .i64 x) ∧ ((((((X.setCell ⟨b, 0, none⟩ v0).setCell ⟨b, 1, none⟩ v1).setCell ⟨b, 2, none⟩ v2).setCell ⟨b, 3, none⟩ v3).setCell ⟨b, 4, none⟩ v4).setCell ⟨b, 5, none⟩ v5).cell? ⟨w.heap.size, 1, none⟩ = some (.int .i64 s) ∧ w.heap.size < ((((((X.setCell ⟨b, 0, none⟩ v0).setCell ⟨b, 1, none⟩ v1).setCell ⟨b, 2, none⟩ v2).setCell ⟨b, 3, none⟩ v3).setCell ⟨b, 4, none⟩ v4).setCell ⟨b, 5, none⟩ v5).heap.size := try_keep b0 b1 b2 b3 b4 b5 most tol a0 a1 a2 a3 a4 a5 x s A n c Bh Ba w i1 i2 X _ hX (set6_below (Below.refl _ X) hb v0 v1 v2 v3 v4 v5)
theorem try_anew (b0 b1 b2 b3 b4 b5 most tol a0 a1 a2 a3 a4 a5 x s : Int) (A : Option Addr) (n c Bh Ba : Nat) (w : World) (i1 : Bh < w.heap.size) (i2 : Ba < w.heap.size) (X : World) (o : Obj) (hX : Gr w (X.alloc o) ∧ (X.alloc o).cell? ⟨Bh, 0, none⟩ = some (.int .i64 b0) ∧ (X.alloc o).cell? ⟨Bh, 1, none⟩ = some (.int .i64 b1) ∧ (X.alloc o).cell? ⟨Bh, 2, none⟩ = some (.int .i64 b2) ∧ (X.alloc o).cell? ⟨Bh, 3, none⟩ = some (.int .i64 b3) ∧ (X.alloc o).cell? ⟨Bh, 4, none⟩ = some (.int .i64 b4) ∧ (X.alloc o).cell? ⟨Bh, 5, none⟩ = some (.int .i64 b5) ∧ (X.alloc o).cell? ⟨Bh, 6, none⟩ = some (.slice A n c) ∧ (X.alloc o).cell? ⟨Bh, 7, none⟩ = some (.int .i64 most) ∧ (X.alloc o).cell? ⟨Bh, 8, none⟩ = some (.int .i64 tol) ∧ (X.alloc o).cell? ⟨Ba, 0, none⟩ = some (.int .i64 a0) ∧ (X.alloc o).cell? ⟨Ba, 1, none⟩ = some (.int .i64 a1) ∧ (X.alloc o).cell? ⟨Ba, 2, none⟩ = some (.int .i64 a2) ∧ (X.alloc o).cell? ⟨Ba, 3, none⟩ = some (.int .i64 a3) ∧ (X.alloc o).cell? ⟨Ba, 4, none⟩ = some (.int .i64 a4) ∧ (X.alloc o).cell? ⟨Ba, 5, none⟩ = some (.int .i64 a5) ∧ (X.alloc o).cell? ⟨w.heap.size, 0, none⟩ = some (.int .i64 x) ∧ (X.alloc o).cell? ⟨w.heap.size, 1, none⟩ = some (.int .i64 s) ∧ w.heap.size < (X.alloc o).heap.size) (o' : Obj) (hz : w.heap.size < X.heap.size) :
    Gr w (X.alloc o') ∧ (X.alloc o').cell? ⟨Bh, 0, none⟩ = some (.int .i64 b0) ∧ (X.alloc o').cell? ⟨Bh, 1, none⟩ = some (.int .i64 b1) ∧ (X.alloc o').cell? ⟨Bh, 2, none⟩ = some (.int .i64 b2) ∧ (X.alloc o').cell? ⟨Bh, 3, none⟩ = some (.int .i64 b3) ∧ (X.alloc o').cell? ⟨Bh, 4, none⟩ = some (.int .i64 b4) ∧ (X.alloc o').cell? ⟨Bh, 5, none⟩ = some (.int .i64 b5) ∧ (X.alloc o').cell? ⟨Bh, 6, none⟩ = some (.slice A n c) ∧ (X.alloc o').cell? ⟨Bh, 7, none⟩ = some (.int .i64 most) ∧ (X.alloc o').cell? ⟨Bh, 8, none⟩ = some (.int .i64 tol) ∧ (X.alloc o').cell? ⟨Ba, 0, none⟩ = some (.int .i64 a0) ∧ (X.alloc o').cell? ⟨Ba, 1, none⟩ = some (.int .i64 a1) ∧ (X.alloc o').cell? ⟨Ba, 2, none⟩ = some (.int .i64 a2) ∧ (X.alloc o').cell? ⟨Ba, 3, none⟩ = some (.int .i64 a3) ∧ (X.alloc o').cell? ⟨Ba, 4, none⟩ = some (.int .i64 a4) ∧ (X.alloc o').cell? ⟨Ba, 5, none⟩ = some (.int .i64 a5) ∧ (X.alloc o').cell? ⟨w.heap.size, 0, none⟩ = some (.int .i64 x) ∧ (X.alloc o').cell? ⟨w.heap.size, 1, none⟩ = some (.int .i64 s) ∧ w.heap.size < (X.alloc o').heap.size := by
  refine try_keep b0 b1 b2 b3 b4 b5 most tol a0 a1 a2 a3 a4 a5 x s A n c Bh Ba w i1 i2 _ _ hX ⟨rfl, rfl, rfl, by simp, fun k hk => ?_⟩
  exact (Below.heap_alloc _ _ _ (by omega)).trans (Below.heap_alloc _ _ _ (by omega)).symm

/-- The new best blow and its distance are laid, in either order. -/
theorem best_set1 {w V : World} {Bb Bl : Nat} {g h l0 l1 l2 l3 l4 l5 : Int} (hB : BestAt V Bb Bl g h l0 l1 l2 l3 l4 l5) (hw : Below Bb w V) (x s y0 y1 y2 y3 y4 y5 : Int) :
    Below Bb w (set6 ((V.setCell ⟨Bb, 0, none⟩ (.int .i64 x)).setCell ⟨Bb, 1, none⟩ (.int .i64 s)) Bl (.int .i64 y0) (.int .i64 y1) (.int .i64 y2) (.int .i64 y3) (.int .i64 y4) (.int .i64 y5)) ∧
    BestAt (set6 ((V.setCell ⟨Bb, 0, none⟩ (.int .i64 x)).setCell ⟨Bb, 1, none⟩ (.int .i64 s)) Bl (.int .i64 y0) (.int .i64 y1) (.int .i64 y2) (.int .i64 y3) (.int .i64 y4) (.int .i64 y5)) Bb Bl x s y0 y1 y2 y3 y4 y5 := by
  obtain ⟨h1, h2, h3, h4, h5, h6, h7⟩ := hB
  have o : ∀ (W : World) (i j : Nat) (v : Value), (W.setCell ⟨Bb, i, none⟩ v).cell? ⟨Bl, j, none⟩ = W.cell? ⟨Bl, j, none⟩ := fun W i j v => World.cell?_setCell_other _ _ _ _ (fun e => by injection e; omega)
  have hsome : ∀ j, j < 6 → (((V.setCell ⟨Bb, 0, none⟩ (.int .i64 x)).setCell ⟨Bb, 1, none⟩ (.int .i64 s)).cell? ⟨Bl, j, none⟩).isSome = true := by
    intro j hj
    rw [o, o]
    obtain ⟨c0, c1, c2, c3, c4, c5⟩ := h6
    obtain rfl | rfl | rfl | rfl | rfl | rfl : j = 0 ∨ j = 1 ∨ j = 2 ∨ j = 3 ∨ j = 4 ∨ j = 5 := by omega
    all_goals simp [*]
  have hs := set6_own hsome (.int .i64 y0) (.int .i64 y1) (.int .i64 y2) (.int .i64 y3) (.int .i64 y4) (.int .i64 y5)
  refine ⟨set6_below ((hw.setCell (Nat.le_refl _) _).setCell (Nat.le_refl _) _) (Nat.le_of_lt h1) _ _ _ _ _ _, h1, by rw [set6_size]; simpa using h2, ?_, ?_, fun i => ?_, ⟨hs.c0, hs.c1, hs.c2, hs.c3, hs.c4, hs.c5⟩, fun i => ?_⟩
  · rw [set6_other _ _ _ _ _ _ _ _ (by omega)]; simp [go_sem, h3]
  · rw [set6_other _ _ _ _ _ _ _ _ (by omega)]; simp [go_sem, h4]
  · rw [set6_frozen]; simp [go_sem, h5]
  · rw [set6_frozen]; simp [go_sem, h7]
theorem best_set2 {w V : World} {Bb Bl : Nat} {g h l0 l1 l2 l3 l4 l5 : Int} (hB : BestAt V Bb Bl g h l0 l1 l2 l3 l4 l5) (hw : Below Bb w V) (x s y0 y1 y2 y3 y4 y5 : Int) :
    Below Bb w (((set6 V Bl (.int .i64 y0) (.int .i64 y1) (.int .i64 y2) (.int .i64 y3) (.int .i64 y4) (.int .i64 y5)).setCell ⟨Bb, 0, none⟩ (.int .i64 x)).setCell ⟨Bb, 1, none⟩ (.int .i64 s)) ∧
    BestAt (((set6 V Bl (.int .i64 y0) (.int .i64 y1) (.int .i64 y2) (.int .i64 y3) (.int .i64 y4) (.int .i64 y5)).setCell ⟨Bb, 0, none⟩ (.int .i64 x)).setCell ⟨Bb, 1, none⟩ (.int .i64 s)) Bb Bl x s y0 y1 y2 y3 y4 y5 := by
  obtain ⟨h1, h2, h3, h4, h5, h6, h7⟩ := hB
  have o : ∀ (W : World) (i j : Nat) (v : Value), (W.setCell ⟨Bb, i, none⟩ v).cell? ⟨Bl, j, none⟩ = W.cell? ⟨Bl, j, none⟩ := fun W i j v => World.cell?_setCell_other _ _ _ _ (fun e => by injection e; omega)
  have hsome : ∀ j, j < 6 → (V.cell? ⟨Bl, j, none⟩).isSome = true := by
    intro j hj
    obtain ⟨c0, c1, c2, c3, c4, c5⟩ := h6
    obtain rfl | rfl | rfl | rfl | rfl | rfl : j = 0 ∨ j = 1 ∨ j = 2 ∨ j = 3 ∨ j = 4 ∨ j = 5 := by omega
    all_goals simp [*]
  have hs := set6_own hsome (.int .i64 y0) (.int .i64 y1) (.int .i64 y2) (.int .i64 y3) (.int .i64 y4) (.int .i64 y5)
  have q0 : (set6 V Bl (.int .i64 y0) (.int .i64 y1) (.int .i64 y2) (.int .i64 y3) (.int .i64 y4) (.int .i64 y5)).cell? ⟨Bb, 0, none⟩ = some (.int .i64 g) := by rw [set6_other _ _ _ _ _ _ _ _ (by omega)]; exact h3
  have q1 : (set6 V Bl (.int .i64 y0) (.int .i64 y1) (.int .i64 y2) (.int .i64 y3) (.int .i64 y4) (.int .i64 y5)).cell? ⟨Bb, 1, none⟩ = some (.int .i64 h) := by rw [set6_other _ _ _ _ _ _ _ _ (by omega)]; exact h4
  refine ⟨((set6_below hw (Nat.le_of_lt h1) _ _ _ _ _ _).setCell (Nat.le_refl _) _).setCell (Nat.le_refl _) _, h1, by simp only [World.size_setCell]; rw [set6_size]; exact h2, ?_, ?_, fun i => ?_, ⟨?_, ?_, ?_, ?_, ?_, ?_⟩, fun i => ?_⟩
  · simp [go_sem, q0]
  · simp [go_sem, q1]
  · simp only [World.frozen?_setCell, set6_frozen]; exact h5 i
  · rw [o, o]; exact hs.c0
  · rw [o, o]; exact hs.c1
  · rw [o, o]; exact hs.c2
  · rw [o, o]; exact hs.c3
  · rw [o, o]; exact hs.c4
  · rw [o, o]; exact hs.c5
  · simp only [World.frozen?_setCell, set6_frozen]; exact h7 i
/-- The same eight numbers. -/
def OldB (g h l0 l1 l2 l3 l4 l5 g' h' m0 m1 m2 m3 m4 m5 : Int) : Prop := g' = g ∧ h' = h ∧ m0 = l0 ∧ m1 = l1 ∧ m2 = l2 ∧ m3 = l3 ∧ m4 = l4 ∧ m5 = l5
set_option maxRecDepth 100000 in
set_option maxHeartbeats 16000000 in
theorem try_any (b0 b1 b2 b3 b4 b5 most tol a0 a1 a2 a3 a4 a5 x s p0 p1 p2 p3 p4 p5 y0 y1 y2 y3 y4 y5 E g h l0 l1 l2 l3 l4 l5 C F R g' h' m0 m1 m2 m3 m4 m5 : Int) (A : Option Addr) (n c Bh Ba Bb Bl : Nat) (w : World) (hT : TryW b0 b1 b2 b3 b4 b5 most tol a0 a1 a2 a3 a4 a5 A n c Bh Ba w) (hBA : BestAt w Bb Bl g h l0 l1 l2 l3 l4 l5)
    (hs : ∀ W, Gr w W → Calls Tryd.prog 58 #[.agg #[.int .i64 b0, .int .i64 b1, .int .i64 b2, .int .i64 b3, .int .i64 b4, .int .i64 b5, .slice A n c, .int .i64 most, .int .i64 tol], .agg #[.int .i64 x, .int .i64 s]] W fun e w' => e = .returned (.agg #[.int .i64 p0, .int .i64 p1, .int .i64 p2, .int .i64 p3, .int .i64 p4, .int .i64 p5]) ∧ Gr W w')
    (hd : ∀ W, Gr w W → Calls Tryd.prog 64 #[.agg #[.int .i64 p0, .int .i64 p1, .int .i64 p2, .int .i64 p3, .int .i64 p4, .int .i64 p5], .agg #[.int .i64 a0, .int .i64 a1, .int .i64 a2, .int .i64 a3, .int .i64 a4, .int .i64 a5]] W fun e w' => e = .returned (.tuple #[.agg #[.int .i64 y0, .int .i64 y1, .int .i64 y2, .int .i64 y3, .int .i64 y4, .int .i64 y5], .int .i64 E]) ∧ Gr W w')
    (hc : E = 0 → ∀ W, Gr w W → Calls Tryd.prog 27 #[.agg #[.int .i64 y0, .int .i64 y1, .int .i64 y2, .int .i64 y3, .int .i64 y4, .int .i64 y5], .agg #[.int .i64 l0, .int .i64 l1, .int .i64 l2, .int .i64 l3, .int .i64 l4, .int .i64 l5]] W fun e w' => e = .returned (.tuple #[.int .i64 C, .int .i64 F]) ∧ Gr W w')
    (hout : (E = 3 ∧ R = 3 ∧ OldB g h l0 l1 l2 l3 l4 l5 g' h' m0 m1 m2 m3 m4 m5) ∨ (E = 0 ∧ R = 0 ∧ (g = 0 ∧ h = 0 ∨ ¬ g = 0 ∧ C < 0) ∧ OldB x s y0 y1 y2 y3 y4 y5 g' h' m0 m1 m2 m3 m4 m5) ∨ (E = 0 ∧ R = 0 ∧ ¬ g = 0 ∧ ¬ C < 0 ∧ OldB g h l0 l1 l2 l3 l4 l5 g' h' m0 m1 m2 m3 m4 m5)) :
    Calls Tryd.prog 63 #[.agg #[.int .i64 x, .int .i64 s], .pointer (some ⟨Bh, 0, none⟩), .pointer (some ⟨Ba, 0, none⟩), .pointer (some ⟨Bl, 0, none⟩), .pointer (some ⟨Bb, 0, none⟩)] w
      fun e w' => e = .returned (.int .i64 R) ∧ Below Bb w w' ∧ BestAt w' Bb Bl g' h' m0 m1 m2 m3 m4 m5 := by
  obtain ⟨⟨k0, k1, k2, k3, k4, k5, k6, k7, k8⟩, ⟨q0, q1, q2, q3, q4, q5⟩, i1, i2⟩ := hT
  have HS := Lib.hid (fun W (hW : Gr w W ∧ W.cell? ⟨Bh, 0, none⟩ = some (.int .i64 b0) ∧ W.cell? ⟨Bh, 1, none⟩ = some (.int .i64 b1) ∧ W.cell? ⟨Bh, 2, none⟩ = some (.int .i64 b2) ∧ W.cell? ⟨Bh, 3, none⟩ = some (.int .i64 b3) ∧ W.cell? ⟨Bh, 4, none⟩ = some (.int .i64 b4) ∧ W.cell? ⟨Bh, 5, none⟩ = some (.int .i64 b5) ∧ W.cell? ⟨Bh, 6, none⟩ = some (.slice A n c) ∧ W.cell? ⟨Bh, 7, none⟩ = some (.int .i64 most) ∧ W.cell? ⟨Bh, 8, none⟩ = some (.int .i64 tol) ∧ W.cell? ⟨Ba, 0, none⟩ = some (.int .i64 a0) ∧ W.cell? ⟨Ba, 1, none⟩ = some (.int .i64 a1) ∧ W.cell? ⟨Ba, 2, none⟩ = some (.int .i64 a2) ∧ W.cell? ⟨Ba, 3, none⟩ = some (.int .i64 a3) ∧ W.cell? ⟨Ba, 4, none⟩ = some (.int .i64 a4) ∧ W.cell? ⟨Ba, 5, none⟩ = some (.int .i64 a5) ∧ W.cell? ⟨w.heap.size, 0, none⟩ = some (.int .i64 x) ∧ W.cell? ⟨w.heap.size, 1, none⟩ = some (.int .i64 s) ∧ w.heap.size < W.heap.size) => hs W hW.1); have HD := Lib.hid (fun W (hW : Gr w W ∧ W.cell? ⟨Bh, 0, none⟩ = some (.int .i64 b0) ∧ W.cell? ⟨Bh, 1, none⟩ = some (.int .i64 b1) ∧ W.cell? ⟨Bh, 2, none⟩ = some (.int .i64 b2) ∧ W.cell? ⟨Bh, 3, none⟩ = some (.int .i64 b3) ∧ W.cell? ⟨Bh, 4, none⟩ = some (.int .i64 b4) ∧ W.cell? ⟨Bh, 5, none⟩ = some (.int .i64 b5) ∧ W.cell? ⟨Bh, 6, none⟩ = some (.slice A n c) ∧ W.cell? ⟨Bh, 7, none⟩ = some (.int .i64 most) ∧ W.cell? ⟨Bh, 8, none⟩ = some (.int .i64 tol) ∧ W.cell? ⟨Ba, 0, none⟩ = some (.int .i64 a0) ∧ W.cell? ⟨Ba, 1, none⟩ = some (.int .i64 a1) ∧ W.cell? ⟨Ba, 2, none⟩ = some (.int .i64 a2) ∧ W.cell? ⟨Ba, 3, none⟩ = some (.int .i64 a3) ∧ W.cell? ⟨Ba, 4, none⟩ = some (.int .i64 a4) ∧ W.cell? ⟨Ba, 5, none⟩ = some (.int .i64 a5) ∧ W.cell? ⟨w.heap.size, 0, none⟩ = some (.int .i64 x) ∧ W.cell? ⟨w.heap.size, 1, none⟩ = some (.int .i64 s) ∧ w.heap.size < W.heap.size) => hd W hW.1); have HC := Lib.hid hc
  have KEEP := Lib.hid (try_keep b0 b1 b2 b3 b4 b5 most tol a0 a1 a2 a3 a4 a5 x s A n c Bh Ba w i1 i2)
  have KEEP2 := Lib.hid (try_call b0 b1 b2 b3 b4 b5 most tol a0 a1 a2 a3 a4 a5 x s A n c Bh Ba w i1 i2)
  have KEEPZ := Lib.hid (try_size b0 b1 b2 b3 b4 b5 most tol a0 a1 a2 a3 a4 a5 x s A n c Bh Ba w)
  have KEEPN := Lib.hid (try_anew b0 b1 b2 b3 b4 b5 most tol a0 a1 a2 a3 a4 a5 x s A n c Bh Ba w i1 i2)
  have KEEPA := Lib.hid (try_alloc b0 b1 b2 b3 b4 b5 most tol a0 a1 a2 a3 a4 a5 x s A n c Bh Ba w i1 i2)
  have KEEPS := Lib.hid (try_set b0 b1 b2 b3 b4 b5 most tol a0 a1 a2 a3 a4 a5 x s A n c Bh Ba w i1 i2)
  clear hs hd hc
  have hS : Gr w (w.alloc (.cells #[.int .i64 x, .int .i64 s] 28)).drew ∧ (w.alloc (.cells #[.int .i64 x, .int .i64 s] 28)).drew.cell? ⟨Bh, 0, none⟩ = some (.int .i64 b0) ∧ (w.alloc (.cells #[.int .i64 x, .int .i64 s] 28)).drew.cell? ⟨Bh, 1, none⟩ = some (.int .i64 b1) ∧ (w.alloc (.cells #[.int .i64 x, .int .i64 s] 28)).drew.cell? ⟨Bh, 2, none⟩ = some (.int .i64 b2) ∧ (w.alloc (.cells #[.int .i64 x, .int .i64 s] 28)).drew.cell? ⟨Bh, 3, none⟩ = some (.int .i64 b3) ∧ (w.alloc (.cells #[.int .i64 x, .int .i64 s] 28)).drew.cell? ⟨Bh, 4, none⟩ = some (.int .i64 b4) ∧ (w.alloc (.cells #[.int .i64 x, .int .i64 s] 28)).drew.cell? ⟨Bh, 5, none⟩ = some (.int .i64 b5) ∧ (w.alloc (.cells #[.int .i64 x, .int .i64 s] 28)).drew.cell? ⟨Bh, 6, none⟩ = some (.slice A n c) ∧ (w.alloc (.cells #[.int .i64 x, .int .i64 s] 28)).drew.cell? ⟨Bh, 7, none⟩ = some (.int .i64 most) ∧ (w.alloc (.cells #[.int .i64 x, .int .i64 s] 28)).drew.cell? ⟨Bh, 8, none⟩ = some (.int .i64 tol) ∧ (w.alloc (.cells #[.int .i64 x, .int .i64 s] 28)).drew.cell? ⟨Ba, 0, none⟩ = some (.int .i64 a0) ∧ (w.alloc (.cells #[.int .i64 x, .int .i64 s] 28)).drew.cell? ⟨Ba, 1, none⟩ = some (.int .i64 a1) ∧ (w.alloc (.cells #[.int .i64 x, .int .i64 s] 28)).drew.cell? ⟨Ba, 2, none⟩ = some (.int .i64 a2) ∧ (w.alloc (.cells #[.int .i64 x, .int .i64 s] 28)).drew.cell? ⟨Ba, 3, none⟩ = some (.int .i64 a3) ∧ (w.alloc (.cells #[.int .i64 x, .int .i64 s] 28)).drew.cell? ⟨Ba, 4, none⟩ = some (.int .i64 a4) ∧ (w.alloc (.cells #[.int .i64 x, .int .i64 s] 28)).drew.cell? ⟨Ba, 5, none⟩ = some (.int .i64 a5) ∧ (w.alloc (.cells #[.int .i64 x, .int .i64 s] 28)).drew.cell? ⟨w.heap.size, 0, none⟩ = some (.int .i64 x) ∧ (w.alloc (.cells #[.int .i64 x, .int .i64 s] 28)).drew.cell? ⟨w.heap.size, 1, none⟩ = some (.int .i64 s) ∧ w.heap.size < (w.alloc (.cells #[.int .i64 x, .int .i64 s] 28)).drew.heap.size := by
    have e1 : ∀ o, (w.alloc (.cells #[.int .i64 x, .int .i64 s] 28)).drew.cell? ⟨Bh, o, none⟩ = w.cell? ⟨Bh, o, none⟩ := fun o => Below.cell (p := ⟨Bh, o, none⟩) ((Gr.refl w).alloc (.cells #[.int .i64 x, .int .i64 s] 28)).drew i1
    have e2 : ∀ o, (w.alloc (.cells #[.int .i64 x, .int .i64 s] 28)).drew.cell? ⟨Ba, o, none⟩ = w.cell? ⟨Ba, o, none⟩ := fun o => Below.cell (p := ⟨Ba, o, none⟩) ((Gr.refl w).alloc (.cells #[.int .i64 x, .int .i64 s] 28)).drew i2
    exact ⟨((Gr.refl w).alloc _).drew, (e1 _).trans k0, (e1 _).trans k1, (e1 _).trans k2, (e1 _).trans k3, (e1 _).trans k4, (e1 _).trans k5, (e1 _).trans k6, (e1 _).trans k7, (e1 _).trans k8, (e2 _).trans q0, (e2 _).trans q1, (e2 _).trans q2, (e2 _).trans q3, (e2 _).trans q4, (e2 _).trans q5, by simp [go_sem], by simp [go_sem], by simp⟩
  have HS0 := Lib.hid hS
  have HS1 := Lib.hid (fun o => KEEPA.out _ hS o)
  clear k0 k1 k2 k3 k4 k5 k6 k7 k8 q0 q1 q2 q3 q4 q5 hS
  go_enter Tryd.func63, Tryd.ntmps63
  go_wp2_with fail
  have hN : cellsN (((w.alloc (.cells #[.int .i64 x, .int .i64 s] 28)).alloc (.cells #[.int .i64 0, .int .i64 0, .int .i64 0, .int .i64 0, .int .i64 0, .int .i64 0] 23)).drew) (w.heap.size + 1) = 6 := by
    have := cellsN_alloc_new (w.alloc (.cells #[.int .i64 x, .int .i64 s] 28)) #[.int .i64 0, .int .i64 0, .int .i64 0, .int .i64 0, .int .i64 0, .int .i64 0] 23 (0, 0)
    rw [World.size_alloc] at this
    exact this
  go_upto_region 1 with fail
  go_cut [7, 8] (fun s7 s8 wx => ∃ Bd : Nat, s7 = .pointer (some ⟨Bd, 0, none⟩) ∧ s8 = .int .i64 E ∧ w.heap.size ≤ Bd ∧ Bd < wx.heap.size ∧ SixV wx Bd (.int .i64 y0) (.int .i64 y1) (.int .i64 y2) (.int .i64 y3) (.int .i64 y4) (.int .i64 y5) ∧ (Gr w wx ∧ wx.cell? ⟨Bh, 0, none⟩ = some (.int .i64 b0) ∧ wx.cell? ⟨Bh, 1, none⟩ = some (.int .i64 b1) ∧ wx.cell? ⟨Bh, 2, none⟩ = some (.int .i64 b2) ∧ wx.cell? ⟨Bh, 3, none⟩ = some (.int .i64 b3) ∧ wx.cell? ⟨Bh, 4, none⟩ = some (.int .i64 b4) ∧ wx.cell? ⟨Bh, 5, none⟩ = some (.int .i64 b5) ∧ wx.cell? ⟨Bh, 6, none⟩ = some (.slice A n c) ∧ wx.cell? ⟨Bh, 7, none⟩ = some (.int .i64 most) ∧ wx.cell? ⟨Bh, 8, none⟩ = some (.int .i64 tol) ∧ wx.cell? ⟨Ba, 0, none⟩ = some (.int .i64 a0) ∧ wx.cell? ⟨Ba, 1, none⟩ = some (.int .i64 a1) ∧ wx.cell? ⟨Ba, 2, none⟩ = some (.int .i64 a2) ∧ wx.cell? ⟨Ba, 3, none⟩ = some (.int .i64 a3) ∧ wx.cell? ⟨Ba, 4, none⟩ = some (.int .i64 a4) ∧ wx.cell? ⟨Ba, 5, none⟩ = some (.int .i64 a5) ∧ wx.cell? ⟨w.heap.size, 0, none⟩ = some (.int .i64 x) ∧ wx.cell? ⟨w.heap.size, 1, none⟩ = some (.int .i64 s) ∧ w.heap.size < wx.heap.size))
  case first =>
    go_region_held3 (fun wx => Gr w wx ∧ wx.cell? ⟨Bh, 0, none⟩ = some (.int .i64 b0) ∧ wx.cell? ⟨Bh, 1, none⟩ = some (.int .i64 b1) ∧ wx.cell? ⟨Bh, 2, none⟩ = some (.int .i64 b2) ∧ wx.cell? ⟨Bh, 3, none⟩ = some (.int .i64 b3) ∧ wx.cell? ⟨Bh, 4, none⟩ = some (.int .i64 b4) ∧ wx.cell? ⟨Bh, 5, none⟩ = some (.int .i64 b5) ∧ wx.cell? ⟨Bh, 6, none⟩ = some (.slice A n c) ∧ wx.cell? ⟨Bh, 7, none⟩ = some (.int .i64 most) ∧ wx.cell? ⟨Bh, 8, none⟩ = some (.int .i64 tol) ∧ wx.cell? ⟨Ba, 0, none⟩ = some (.int .i64 a0) ∧ wx.cell? ⟨Ba, 1, none⟩ = some (.int .i64 a1) ∧ wx.cell? ⟨Ba, 2, none⟩ = some (.int .i64 a2) ∧ wx.cell? ⟨Ba, 3, none⟩ = some (.int .i64 a3) ∧ wx.cell? ⟨Ba, 4, none⟩ = some (.int .i64 a4) ∧ wx.cell? ⟨Ba, 5, none⟩ = some (.int .i64 a5) ∧ wx.cell? ⟨w.heap.size, 0, none⟩ = some (.int .i64 x) ∧ wx.cell? ⟨w.heap.size, 1, none⟩ = some (.int .i64 s) ∧ w.heap.size < wx.heap.size) (first | with_reducible exact HS0.out | with_reducible exact KEEP2.out _ _ (by assumption) (by assumption) | with_reducible exact KEEPA.out _ (by assumption) _ | with_reducible exact KEEPN.out _ _ (by assumption) _ (by omega) | with_reducible exact KEEPS.out _ (by assumption) _ (by omega) _ _ _ _ _ _ | exact HS1.out _)
      (first | (go_at_call 58; refine (HS.out _ (by assumption)).mono ?_; rintro e w' ⟨rfl, hb⟩; have hsz := KEEPZ.out _ (by assumption) _ hb; have hz := hb.le; obtain ⟨hcx, hfx⟩ := hb.cells; have hn := hb.cellsN; (try simp only [World.size_drew] at hcx hfx hz hn); (try simp only [World.size_setCell] at hcx hfx hz hn); (try simp only [World.size_alloc] at hcx hfx hz hn)) | (go_at_call 64; refine (HD.out _ (by assumption)).mono ?_; rintro e w' ⟨rfl, hb⟩; have hsz := KEEPZ.out _ (by assumption) _ hb; have hz := hb.le; obtain ⟨hcx, hfx⟩ := hb.cells; have hn := hb.cellsN; (try simp only [World.size_drew] at hcx hfx hz hn); (try simp only [World.size_setCell] at hcx hfx hz hn); (try simp only [World.size_alloc] at hcx hfx hz hn)))
    all_goals
      go_wp2_with fail
      go_meet
      refine ⟨_, rfl, rfl, by omega, by (try simp); (try omega), ⟨by simp [go_sem, *], by simp [go_sem, *], by simp [go_sem, *], by simp [go_sem, *], by simp [go_sem, *], by simp [go_sem, *]⟩, by assumption⟩
  case rest =>
    obtain ⟨Bd, rfl, rfl, h1, h2, ⟨d0, d1, d2, d3, d4, d5⟩, hSx⟩ := hcut
    have hg := hSx.1
    have t0 := hSx.2.2.2.2.2.2.2.2.2.2.2.2.2.2.2.2.1
    have t1 := hSx.2.2.2.2.2.2.2.2.2.2.2.2.2.2.2.2.2.1
    have HG := Lib.hid hg
    have HB := Lib.hid (hBA.keep hg)
    have i5 := hBA.sz
    have i6 := hBA.lt
    clear hSx hg hBA HS HD KEEP KEEP2 KEEPN KEEPA KEEPZ KEEPS HS0 HS1 hN
    rcases hout with ⟨rfl, rfl, rfl, rfl, rfl, rfl, rfl, rfl, rfl, rfl⟩ | ⟨rfl, rfl, hC, rfl, rfl, rfl, rfl, rfl, rfl, rfl, rfl⟩ | ⟨rfl, rfl, hg0, hC, rfl, rfl, rfl, rfl, rfl, rfl, rfl, rfl⟩
    · go_wp2_with fail
      go_ret
      exact ⟨rfl, Below.mono HG.out (by omega), HB.out⟩
    · have hB0 := HB.out
      obtain ⟨-, -, b0', b1', -, ⟨c0, c1, c2, c3, c4, c5⟩, -⟩ := hB0
      go_wp2_with fail
      (go_at_call 27; with_reducible refine (HC.out (by simp) _ HG.out).mono ?_; rintro e w4 ⟨rfl, hb⟩)
      have HG4 := Lib.hid (HG.out.trans hb)
      have hB4 := HB.out.keep hb
      have HB5 := Lib.hid hB4
      have HB4 := Lib.hid (hB4.keep (Gr.refl w4).drew)
      have k : ∀ B o, B < wc.heap.size → w4.cell? ⟨B, o, none⟩ = wc.cell? ⟨B, o, none⟩ := fun B o hB => Below.cell (p := ⟨B, o, none⟩) hb hB
      have e0 := (k _ _ h2).trans d0; have e1 := (k _ _ h2).trans d1; have e2 := (k _ _ h2).trans d2; have e3 := (k _ _ h2).trans d3; have e4 := (k _ _ h2).trans d4; have e5 := (k _ _ h2).trans d5
      have hwc := HG.out.size
      have f0 := (k w.heap.size 0 (by omega)).trans t0; have f1 := (k w.heap.size 1 (by omega)).trans t1
      obtain ⟨-, j2, b0', b1', bf', ⟨c0, c1, c2, c3, c4, c5⟩, lf'⟩ := hB4
      clear k d0 d1 d2 d3 d4 d5 t0 t1 hb
      clear HB
      have HX : Hid (¬ g = 0 ∨ (g = 0 ∧ h = 0)) := Lib.hid (by omega)
      rcases hC with ⟨rfl, rfl⟩ | ⟨hg0, hC⟩
      all_goals
        go_upto_region 6 with fail
        go_cut [] (fun wx => Below Bb w wx ∧ BestAt wx Bb Bl g' h' m0 m1 m2 m3 m4 m5)
        case first =>
          go_region
          all_goals
            go_wp2_with fail
            go_meet
            have hq := best_set1 HB5.out (Below.mono HG4.out (by omega)) g' h' m0 m1 m2 m3 m4 m5
            simp only [set6] at hq
            exact ⟨Below.drew hq.1, hq.2.keep ((Gr.refl _).drew)⟩
        case rest =>
          go_wp2_with fail
          go_ret
          exact ⟨rfl, hcut⟩
    · have hB0 := HB.out
      obtain ⟨-, -, b0', b1', -, ⟨c0, c1, c2, c3, c4, c5⟩, -⟩ := hB0
      go_wp2_with fail
      (go_at_call 27; with_reducible refine (HC.out (by simp) _ HG.out).mono ?_; rintro e w4 ⟨rfl, hb⟩)
      have HG4 := Lib.hid (HG.out.trans hb)
      have hB4 := HB.out.keep hb
      have HB5 := Lib.hid hB4
      have HB4 := Lib.hid (hB4.keep (Gr.refl w4).drew)
      have k : ∀ B o, B < wc.heap.size → w4.cell? ⟨B, o, none⟩ = wc.cell? ⟨B, o, none⟩ := fun B o hB => Below.cell (p := ⟨B, o, none⟩) hb hB
      have e0 := (k _ _ h2).trans d0; have e1 := (k _ _ h2).trans d1; have e2 := (k _ _ h2).trans d2; have e3 := (k _ _ h2).trans d3; have e4 := (k _ _ h2).trans d4; have e5 := (k _ _ h2).trans d5
      have hwc := HG.out.size
      have f0 := (k w.heap.size 0 (by omega)).trans t0; have f1 := (k w.heap.size 1 (by omega)).trans t1
      obtain ⟨-, j2, b0', b1', bf', ⟨c0, c1, c2, c3, c4, c5⟩, lf'⟩ := hB4
      clear k d0 d1 d2 d3 d4 d5 t0 t1 hb
      go_wp2_with fail
      go_ret
      exact ⟨rfl, Below.mono HG4.out (by omega), HB5.out⟩
end Go.Proofs.YtbaopniofhbjdaaDoor
