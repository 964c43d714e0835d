/-
  The examples of chapter 12 (plain facts).
  schismalaw12.head: the examples of the chapter.
-/
import Derived.Test.YtohalcookjbaaaaDoorNkSm
import Derived.Test.YtohalcookjbaaaaDoorNkSe
import Derived.Test.YtohalcookjbaaaaDoorEq6
namespace Go.Proofs.YtohalcookjbaaaaDoor
open Go.RowKit

def neckO : Nat → Nat → Int
  | 1, 0 => -12
  | 1, 1 => 12
  | _, _ => 0
def neckQ : Nat → Nat → Int
  | 0, 0 => -36
  | 0, 1 => 24
  | 1, 0 => -24
  | 1, 2 => 12
  | 2, 0 => -12
  | 2, 1 => 12
  | _, _ => 0
def hv1 : Nat → Nat → Int
  | 1, 0 => -1
  | 1, 1 => 1
  | _, _ => 0
def hv2 : Nat → Nat → Int
  | 0, 0 => -3
  | 0, 1 => 2
  | 1, 0 => -3
  | 1, 1 => 1
  | 1, 2 => 1
  | _, _ => 0
def hv3 : Nat → Nat → Int
  | 0, 0 => -3
  | 0, 1 => 2
  | 1, 0 => -2
  | 1, 1 => 2
  | _, _ => 0
def hv4 : Nat → Nat → Int
  | 0, 0 => 1
  | _, _ => 0
theorem n_ok : neckB 2 neckO 3 neckQ 1 0 = true := by decide +kernel
theorem n_find : findL 2 neckO 3 neckQ 1 0 ⟨-1, 1, 0, 0, 0, 0⟩ = [(0, 3), (1, 0)] := by decide +kernel
theorem n_findE : findE 2 neckO 3 neckQ 1 0 ⟨-1, 1, 0, 0, 0, 0⟩ = 0 := by decide +kernel
theorem n_hv1E : chordE 2 neckO 3 neckQ 1 0 hv1 2 = 0 := by decide +kernel
theorem n_hv1L : chordL 2 neckO 3 neckQ 1 0 hv1 2 = [(0, 0), (1, 0)] := by decide +kernel
theorem n_hv2E : chordE 2 neckO 3 neckQ 1 0 hv2 2 = 0 := by decide +kernel
theorem n_hv2L : chordL 2 neckO 3 neckQ 1 0 hv2 2 = [(0, 1), (1, 2)] := by decide +kernel
theorem n_hv3E : chordE 2 neckO 3 neckQ 1 0 hv3 2 = 20 := by decide +kernel
theorem n_hv3L : chordL 2 neckO 3 neckQ 1 0 hv3 2 = [] := by decide +kernel
theorem n_hv4E : chordE 2 neckO 3 neckQ 1 0 hv4 1 = 4 := by decide +kernel
theorem n_hv4L : chordL 2 neckO 3 neckQ 1 0 hv4 1 = [] := by decide +kernel
end Go.Proofs.YtohalcookjbaaaaDoor

namespace Go.Proofs.YtohalcookjbaaaaDoor
open Go.RowKit

theorem rows_newb (w : World) (cs : Array Value) (t : TypeId) (sz n : Nat) (g : Nat → Nat → Int) (b : Nat) (hb : b = w.heap.size) (h : ∀ i j, i < n → j < sz → cs[i * sz + j]? = some (.int .i64 (g i j))) : RowsAt (w.alloc (.cells cs t)) sz (some ⟨b, 0, none⟩) n g := by
  subst hb
  intro _
  refine ⟨w.heap.size, 0, rfl, by simp, fun i hi j hj => ?_⟩
  have := h i j hi hj
  have hh := World.alloc_heap_new w (.cells cs t)
  unfold World.cell?
  rw [hh, Nat.zero_add]
  simpa using this
/-- The neck of the examples, in a box. -/
structure HdAt (W : World) (B X Y : Nat) : Prop where
  nk : NeckAt W B (some ⟨X, 0, none⟩) (some ⟨Y, 0, none⟩) 2 2 3 3 1 0
  o : RowsAt W 6 (some ⟨X, 0, none⟩) 2 neckO
  q : RowsAt W 6 (some ⟨Y, 0, none⟩) 3 neckQ
theorem HdAt.keep {W W' : World} {B X Y : Nat} (h : HdAt W B X Y) (g : Gr W W') : HdAt W' B X Y := ⟨h.nk.keep g, h.o.keep g, h.q.keep g⟩
def FR2 (E : Int) (l : List (Nat × Nat)) (n : Nat) (w : World) (e : Ending) (w' : World) : Prop := ∃ (A : Option Addr) (c : Nat), e = .returned (.tuple #[.slice A n c, .int .i64 E]) ∧ RowsAt w' 2 A n (frF l) ∧ n ≤ c ∧ Gr w w'
theorem frR_lit {E : Int} {l : List (Nat × Nat)} {n : Nat} {w w' : World} {e : Ending} (h : FrR E l w e w') (hn : l.length = n) : FR2 E l n w e w' := by
  subst hn
  obtain ⟨A, c, h1, -, h2, -, h3, h4⟩ := h
  exact ⟨A, c, h1, h2, h3, h4⟩
theorem sameR_self (g : Nat → Nat → Int) (n : Nat) : sameR g g n = true := (sameR_iff g g n).2 fun _ _ => ⟨rfl, rfl⟩
theorem s_same (l : List (Nat × Nat)) (n : Nat) (A A' : Option Addr) (c c' : Nat) (W : World) (hn : n ≤ 9223372036854775807) (h : RowsAt W 2 A n (frF l)) (h' : RowsAt W 2 A' n (frF l)) :
    Calls Tryd.prog 17 #[.slice A n c, .slice A' n c'] W fun e w' => e = .returned (.bool true) ∧ Gr W w' := by
  have k := same_any A n c (frF l) A' n c' (frF l) W h h' hn hn
  rwa [sameR_self, beq_self_eq_true, Bool.and_self] at k
set_option maxRecDepth 100000 in
set_option maxHeartbeats 16000000 in
theorem neck_any (w : World) : Calls Tryd.prog 30 #[] w fun e w' => ∃ X Y : Nat, e = .returned (.agg #[.slice (some ⟨X, 0, none⟩) 2 2, .slice (some ⟨Y, 0, none⟩) 3 3, .int .i64 1, .int .i64 0]) ∧ RowsAt w' 6 (some ⟨X, 0, none⟩) 2 neckO ∧ RowsAt w' 6 (some ⟨Y, 0, none⟩) 3 neckQ ∧ Gr w w' := by
  go_enter Tryd.func30, Tryd.ntmps30
  go_wp2_with fail
  refine bodyPost_ret (v := .agg #[.slice (some ⟨w.heap.size + 1, 0, none⟩) 2 2, .slice (some ⟨w.heap.size + 1 + 1, 0, none⟩) 3 3, .int .i64 1, .int .i64 0]) (by simp [results, Tryd.results30, go_sem, *]) rfl ⟨w.heap.size + 1, w.heap.size + 1 + 1, rfl, ?_, ?_, (by repeat (first | with_reducible exact Gr.refl _ | with_reducible refine Gr.alloc ?_ _ | with_reducible refine Gr.drew ?_ | with_reducible refine Gr.trans ?_ (by assumption) | with_reducible refine Gr.setCell ?_ (by (try simp); (try omega)) _))⟩
  · have k := rows_newb (w.alloc (.cells #[.slice (some ⟨w.heap.size + 1, 0, none⟩) 2 2, .slice (some ⟨w.heap.size + 1 + 1, 0, none⟩) 3 3, .int .i64 1, .int .i64 0] 24)) #[.int .i64 (0), .int .i64 (0), .int .i64 (0), .int .i64 (0), .int .i64 (0), .int .i64 (0), .int .i64 (-12), .int .i64 (12), .int .i64 (0), .int .i64 (0), .int .i64 (0), .int .i64 (0)] 39 6 2 neckO (w.heap.size + 1) (by simp) (by intro i j hi hj; rcases (show i = 0 ∨ i = 1 by omega) with rfl | rfl <;> rcases (show j = 0 ∨ j = 1 ∨ j = 2 ∨ j = 3 ∨ j = 4 ∨ j = 5 by omega) with rfl | rfl | rfl | rfl | rfl | rfl <;> rfl)
    exact k.keep ((Gr.refl _).alloc _)
  · exact rows_newb ((w.alloc (.cells #[.slice (some ⟨w.heap.size + 1, 0, none⟩) 2 2, .slice (some ⟨w.heap.size + 1 + 1, 0, none⟩) 3 3, .int .i64 1, .int .i64 0] 24)).alloc (.cells #[.int .i64 (0), .int .i64 (0), .int .i64 (0), .int .i64 (0), .int .i64 (0), .int .i64 (0), .int .i64 (-12), .int .i64 (12), .int .i64 (0), .int .i64 (0), .int .i64 (0), .int .i64 (0)] 39)) #[.int .i64 (-36), .int .i64 (24), .int .i64 (0), .int .i64 (0), .int .i64 (0), .int .i64 (0), .int .i64 (-24), .int .i64 (0), .int .i64 (12), .int .i64 (0), .int .i64 (0), .int .i64 (0), .int .i64 (-12), .int .i64 (12), .int .i64 (0), .int .i64 (0), .int .i64 (0), .int .i64 (0)] 39 6 3 neckQ (w.heap.size + 1 + 1) (by simp) (by intro i j hi hj; rcases (show i = 0 ∨ i = 1 ∨ i = 2 by omega) with rfl | rfl | rfl <;> rcases (show j = 0 ∨ j = 1 ∨ j = 2 ∨ j = 3 ∨ j = 4 ∨ j = 5 by omega) with rfl | rfl | rfl | rfl | rfl | rfl <;> rfl)
set_option maxRecDepth 100000 in
set_option maxHeartbeats 16000000 in
theorem s_sound (X Y : Nat) (W : World) (hP : Primes W) (hO : RowsAt W 6 (some ⟨X, 0, none⟩) 2 neckO) (hQ : RowsAt W 6 (some ⟨Y, 0, none⟩) 3 neckQ) :
    Calls Tryd.prog 20 #[.agg #[.slice (some ⟨X, 0, none⟩) 2 2, .slice (some ⟨Y, 0, none⟩) 3 3, .int .i64 1, .int .i64 0], .agg #[.int .i64 1, .int .i64 2]] W fun e w' => e = .returned (.tuple #[.agg #[.int .i64 (-36), .int .i64 12, .int .i64 12, .int .i64 0, .int .i64 0, .int .i64 0], .int .i64 0]) ∧ Gr W w' := by
  have k := fsound_fret (some ⟨X, 0, none⟩) (some ⟨Y, 0, none⟩) 2 2 3 3 1 0 neckO neckQ 1 1 W hP hO hQ (by omega) (by omega) n_ok (by omega) (by omega)
  exact k
theorem s_find (X Y : Nat) (W : World) (hP : Primes W) (hL : Logs W) (hO : RowsAt W 6 (some ⟨X, 0, none⟩) 2 neckO) (hQ : RowsAt W 6 (some ⟨Y, 0, none⟩) 3 neckQ) :
    Calls Tryd.prog 22 #[.agg #[.slice (some ⟨X, 0, none⟩) 2 2, .slice (some ⟨Y, 0, none⟩) 3 3, .int .i64 1, .int .i64 0], .agg #[.int .i64 (-1), .int .i64 1, .int .i64 0, .int .i64 0, .int .i64 0, .int .i64 0]] W (FR2 0 [(0, 3), (1, 0)] 2 W) := by
  have k := ffind_any (some ⟨X, 0, none⟩) (some ⟨Y, 0, none⟩) 2 2 3 3 1 0 neckO neckQ (-1) 1 0 0 0 0 W hP hL hO hQ (by omega) (by omega)
  rw [n_findE, n_find] at k
  exact k.mono fun e w' h => frR_lit h rfl
theorem s_hv1 (X Y : Nat) (A : Option Addr) (c : Nat) (W : World) (hP : Primes W) (hL : Logs W) (hO : RowsAt W 6 (some ⟨X, 0, none⟩) 2 neckO) (hQ : RowsAt W 6 (some ⟨Y, 0, none⟩) 3 neckQ) (hA : RowsAt W 6 A 2 hv1) :
    Calls Tryd.prog 15 #[.agg #[.slice (some ⟨X, 0, none⟩) 2 2, .slice (some ⟨Y, 0, none⟩) 3 3, .int .i64 1, .int .i64 0], .slice A 2 c] W (FR2 0 [(0, 0), (1, 0)] 2 W) := by
  have k := fchord_any (some ⟨X, 0, none⟩) (some ⟨Y, 0, none⟩) 2 2 3 3 1 0 neckO neckQ A 2 c hv1 W hP hL hO hQ hA (by omega) (by omega) (by omega)
  rw [n_hv1E, n_hv1L] at k
  exact k.mono fun e w' h => frR_lit h rfl
theorem s_hv2 (X Y : Nat) (A : Option Addr) (c : Nat) (W : World) (hP : Primes W) (hL : Logs W) (hO : RowsAt W 6 (some ⟨X, 0, none⟩) 2 neckO) (hQ : RowsAt W 6 (some ⟨Y, 0, none⟩) 3 neckQ) (hA : RowsAt W 6 A 2 hv2) :
    Calls Tryd.prog 15 #[.agg #[.slice (some ⟨X, 0, none⟩) 2 2, .slice (some ⟨Y, 0, none⟩) 3 3, .int .i64 1, .int .i64 0], .slice A 2 c] W (FR2 0 [(0, 1), (1, 2)] 2 W) := by
  have k := fchord_any (some ⟨X, 0, none⟩) (some ⟨Y, 0, none⟩) 2 2 3 3 1 0 neckO neckQ A 2 c hv2 W hP hL hO hQ hA (by omega) (by omega) (by omega)
  rw [n_hv2E, n_hv2L] at k
  exact k.mono fun e w' h => frR_lit h rfl
theorem s_hv3 (X Y : Nat) (A : Option Addr) (c : Nat) (W : World) (hP : Primes W) (hL : Logs W) (hO : RowsAt W 6 (some ⟨X, 0, none⟩) 2 neckO) (hQ : RowsAt W 6 (some ⟨Y, 0, none⟩) 3 neckQ) (hA : RowsAt W 6 A 2 hv3) :
    Calls Tryd.prog 15 #[.agg #[.slice (some ⟨X, 0, none⟩) 2 2, .slice (some ⟨Y, 0, none⟩) 3 3, .int .i64 1, .int .i64 0], .slice A 2 c] W (FR2 20 [] 0 W) := by
  have k := fchord_any (some ⟨X, 0, none⟩) (some ⟨Y, 0, none⟩) 2 2 3 3 1 0 neckO neckQ A 2 c hv3 W hP hL hO hQ hA (by omega) (by omega) (by omega)
  rw [n_hv3E, n_hv3L] at k
  exact k.mono fun e w' h => frR_lit h rfl
theorem s_hv4 (X Y : Nat) (A : Option Addr) (c : Nat) (W : World) (hP : Primes W) (hL : Logs W) (hO : RowsAt W 6 (some ⟨X, 0, none⟩) 2 neckO) (hQ : RowsAt W 6 (some ⟨Y, 0, none⟩) 3 neckQ) (hA : RowsAt W 6 A 1 hv4) :
    Calls Tryd.prog 15 #[.agg #[.slice (some ⟨X, 0, none⟩) 2 2, .slice (some ⟨Y, 0, none⟩) 3 3, .int .i64 1, .int .i64 0], .slice A 1 c] W (FR2 4 [] 0 W) := by
  have k := fchord_any (some ⟨X, 0, none⟩) (some ⟨Y, 0, none⟩) 2 2 3 3 1 0 neckO neckQ A 1 c hv4 W hP hL hO hQ hA (by omega) (by omega) (by omega)
  rw [n_hv4E, n_hv4L] at k
  exact k.mono fun e w' h => frR_lit h rfl
theorem s_fits_yes (X Y : Nat) (A : Option Addr) (c : Nat) (W : World) (hP : Primes W) (hO : RowsAt W 6 (some ⟨X, 0, none⟩) 2 neckO) (hQ : RowsAt W 6 (some ⟨Y, 0, none⟩) 3 neckQ) (hA : RowsAt W 2 A 2 (frF [(0, 1), (1, 2)])) (hc : 2 ≤ c) :
    Calls Tryd.prog 18 #[.agg #[.slice (some ⟨X, 0, none⟩) 2 2, .slice (some ⟨Y, 0, none⟩) 3 3, .int .i64 1, .int .i64 0], .slice A 2 c] W fun e w' => e = .returned (.tuple #[.bool true, .int .i64 0]) ∧ Gr W w' := by
  have k := ffits_any (some ⟨X, 0, none⟩) (some ⟨Y, 0, none⟩) 2 2 3 3 1 0 neckO neckQ A 2 c (frF [(0, 1), (1, 2)]) W hP hO hQ hA (by omega) (by omega) (by omega) hc
  rw [show (neckB 2 neckO 3 neckQ 1 0 && allEx 2 3 (frF [(0, 1), (1, 2)]) 2) = true by decide +kernel, show heldB 1 (frF [(0, 1), (1, 2)]) 2 = true by decide +kernel] at k
  exact k
theorem s_fits_no (X Y : Nat) (A : Option Addr) (c : Nat) (W : World) (hP : Primes W) (hO : RowsAt W 6 (some ⟨X, 0, none⟩) 2 neckO) (hQ : RowsAt W 6 (some ⟨Y, 0, none⟩) 3 neckQ) (hA : RowsAt W 2 A 2 (frF [(0, 1), (1, 3)])) (hc : 2 ≤ c) :
    Calls Tryd.prog 18 #[.agg #[.slice (some ⟨X, 0, none⟩) 2 2, .slice (some ⟨Y, 0, none⟩) 3 3, .int .i64 1, .int .i64 0], .slice A 2 c] W fun e w' => e = .returned (.tuple #[.bool false, .int .i64 0]) ∧ Gr W w' := by
  have k := ffits_any (some ⟨X, 0, none⟩) (some ⟨Y, 0, none⟩) 2 2 3 3 1 0 neckO neckQ A 2 c (frF [(0, 1), (1, 3)]) W hP hO hQ hA (by omega) (by omega) (by omega) hc
  rw [show (neckB 2 neckO 3 neckQ 1 0 && allEx 2 3 (frF [(0, 1), (1, 3)]) 2) = true by decide +kernel, show heldB 1 (frF [(0, 1), (1, 3)]) 2 = false by decide +kernel] at k
  exact k
theorem s_valid (X Y : Nat) (W : World) (hP : Primes W) (hO : RowsAt W 6 (some ⟨X, 0, none⟩) 2 neckO) (hQ : RowsAt W 6 (some ⟨Y, 0, none⟩) 3 neckQ) :
    Calls Tryd.prog 13 #[.agg #[.slice (some ⟨X, 0, none⟩) 2 2, .slice (some ⟨Y, 0, none⟩) 3 3, .int .i64 1, .int .i64 0]] W fun e w' => e = .returned (.bool true) ∧ Gr W w' := by
  have k := neckValid_any (some ⟨X, 0, none⟩) (some ⟨Y, 0, none⟩) 2 2 3 3 1 0 neckO neckQ W hP hO hQ (by omega) (by omega)
  rwa [n_ok] at k
theorem s_valid0 (W : World) (hP : Primes W) :
    Calls Tryd.prog 13 #[.agg #[.slice none 0 0, .slice none 0 0, .int .i64 0, .int .i64 0]] W fun e w' => e = .returned (.bool false) ∧ Gr W w' := by
  have k := neckValid_any none none 0 0 0 0 0 0 neckO neckQ W hP (RowsAt.nil _ _ _ _) (RowsAt.nil _ _ _ _) (by omega) (by omega)
  rwa [show neckB 0 neckO 0 neckQ 0 0 = false by decide +kernel] at k

set_option maxRecDepth 100000 in
set_option maxHeartbeats 16000000 in
theorem fhead_any (w : World) (hP : Primes w) (hL : Logs w) : Calls Tryd.prog 11 #[] w fun e w' => e = .returned (.bool true) ∧ Gr w w' := by
  have HP := Lib.hid hP; have HL := Lib.hid hL
  have hE6 := eq6P_yes (-36) 12 12 0 0 0
  clear hP hL
  go_enter Tryd.func11, Tryd.ntmps11
  go_wp2_with fail
  go_at_call 30
  refine (neck_any _).mono ?_
  rintro e wn ⟨X, Y, rfl, hX, hY, hb⟩
  have hgw : Gr w wn := Gr.trans (by repeat (first | with_reducible exact Gr.refl _ | with_reducible refine Gr.alloc ?_ _ | with_reducible refine Gr.drew ?_ | with_reducible refine Gr.trans ?_ (by assumption) | with_reducible refine Gr.setCell ?_ (by (try simp); (try omega)) _)) hb
  go_upto_region 2 with fail
  have hNK := neckAt_new wn (some ⟨X, 0, none⟩) (some ⟨Y, 0, none⟩) 2 2 3 3 1 0 24
  have HB : Hid (HdAt (wn.alloc (.cells #[.slice (some ⟨X, 0, none⟩) 2 2, .slice (some ⟨Y, 0, none⟩) 3 3, .int .i64 1, .int .i64 0] 24)) wn.heap.size X Y) := Lib.hid ⟨hNK, hX.keep ((Gr.refl _).alloc _), hY.keep ((Gr.refl _).alloc _)⟩
  have HG : Hid (Gr w (wn.alloc (.cells #[.slice (some ⟨X, 0, none⟩) 2 2, .slice (some ⟨Y, 0, none⟩) 3 3, .int .i64 1, .int .i64 0] 24))) := Lib.hid (hgw.alloc _)
  clear hb hgw hX hY hNK
  generalize hw0 : wn.alloc (.cells #[.slice (some ⟨X, 0, none⟩) 2 2, .slice (some ⟨Y, 0, none⟩) 3 3, .int .i64 1, .int .i64 0] 24) = w0 at *
  clear hw0
  generalize wn.heap.size = B at *
  clear wn
  obtain ⟨wn, rfl⟩ : ∃ wn : World, wn = w0 := ⟨_, rfl⟩
  obtain ⟨⟨hl0, b0, b1, b2, b3⟩, -, -⟩ := HB.out
  go_wp2_with fail
  go_at_call 20
  refine (s_sound X Y _ (HP.out.keep (HG.out.trans (by repeat (first | with_reducible exact Gr.refl _ | with_reducible refine Gr.alloc ?_ _ | with_reducible refine Gr.drew ?_ | with_reducible refine Gr.trans ?_ (by assumption) | with_reducible refine Gr.setCell ?_ (by (try simp); (try omega)) _)))) (HB.out.o.keep (by repeat (first | with_reducible exact Gr.refl _ | with_reducible refine Gr.alloc ?_ _ | with_reducible refine Gr.drew ?_ | with_reducible refine Gr.trans ?_ (by assumption) | with_reducible refine Gr.setCell ?_ (by (try simp); (try omega)) _))) (HB.out.q.keep (by repeat (first | with_reducible exact Gr.refl _ | with_reducible refine Gr.alloc ?_ _ | with_reducible refine Gr.drew ?_ | with_reducible refine Gr.trans ?_ (by assumption) | with_reducible refine Gr.setCell ?_ (by (try simp); (try omega)) _)))).mono ?_
  rintro e w2 ⟨rfl, hb⟩
  have hgw : Gr wn w2 := Gr.trans (by repeat (first | with_reducible exact Gr.refl _ | with_reducible refine Gr.alloc ?_ _ | with_reducible refine Gr.drew ?_ | with_reducible refine Gr.trans ?_ (by assumption) | with_reducible refine Gr.setCell ?_ (by (try simp); (try omega)) _)) hb
  have HG2 := Lib.hid (HG.out.trans hgw); have HB2 := Lib.hid (HB.out.keep hgw)
  clear hb hgw
  clear hl0 b0 b1 b2 b3
  clear HG HB
  have HG := HG2; have HB := HB2
  clear HG2 HB2
  obtain ⟨wn, rfl⟩ : ∃ wn : World, wn = w2 := ⟨_, rfl⟩
  obtain ⟨⟨hl0, b0, b1, b2, b3⟩, -, -⟩ := HB.out
  go_wp2_with fail
  go_at_call 22
  refine (s_find X Y _ (HP.out.keep (HG.out.trans (by repeat (first | with_reducible exact Gr.refl _ | with_reducible refine Gr.alloc ?_ _ | with_reducible refine Gr.drew ?_ | with_reducible refine Gr.trans ?_ (by assumption) | with_reducible refine Gr.setCell ?_ (by (try simp); (try omega)) _)))) (HL.out.keep (HG.out.trans (by repeat (first | with_reducible exact Gr.refl _ | with_reducible refine Gr.alloc ?_ _ | with_reducible refine Gr.drew ?_ | with_reducible refine Gr.trans ?_ (by assumption) | with_reducible refine Gr.setCell ?_ (by (try simp); (try omega)) _)))) (HB.out.o.keep (by repeat (first | with_reducible exact Gr.refl _ | with_reducible refine Gr.alloc ?_ _ | with_reducible refine Gr.drew ?_ | with_reducible refine Gr.trans ?_ (by assumption) | with_reducible refine Gr.setCell ?_ (by (try simp); (try omega)) _))) (HB.out.q.keep (by repeat (first | with_reducible exact Gr.refl _ | with_reducible refine Gr.alloc ?_ _ | with_reducible refine Gr.drew ?_ | with_reducible refine Gr.trans ?_ (by assumption) | with_reducible refine Gr.setCell ?_ (by (try simp); (try omega)) _)))).mono ?_
  rintro e w2 ⟨A1, d1, rfl, hr1, -, hb⟩
  have hgw : Gr wn w2 := Gr.trans (by repeat (first | with_reducible exact Gr.refl _ | with_reducible refine Gr.alloc ?_ _ | with_reducible refine Gr.drew ?_ | with_reducible refine Gr.trans ?_ (by assumption) | with_reducible refine Gr.setCell ?_ (by (try simp); (try omega)) _)) hb
  have HG2 := Lib.hid (HG.out.trans hgw); have HB2 := Lib.hid (HB.out.keep hgw)
  have HR1 := Lib.hid hr1
  clear hr1
  have HP6 : Hid (SixV w2 wn.heap.size (.int .i64 (-36)) (.int .i64 12) (.int .i64 12) (.int .i64 0) (.int .i64 0) (.int .i64 0)) := Lib.hid (SixV.keep (W := wn.alloc (.cells #[.int .i64 (-36), .int .i64 12, .int .i64 12, .int .i64 0, .int .i64 0, .int .i64 0] 39)) ⟨by simp [go_sem], by simp [go_sem], by simp [go_sem], by simp [go_sem], by simp [go_sem], by simp [go_sem]⟩ hb (by simp))
  have hb6 : wn.heap.size < w2.heap.size := by have := hb.le; simp at this; omega
  clear hb hgw
  clear hl0 b0 b1 b2 b3
  clear HG HB
  have HG := HG2; have HB := HB2
  clear HG2 HB2
  obtain ⟨wn, rfl⟩ : ∃ wn : World, wn = w2 := ⟨_, rfl⟩
  obtain ⟨p0, p1, p2, p3, p4, p5⟩ := HP6.out
  obtain ⟨⟨hl0, b0, b1, b2, b3⟩, -, -⟩ := HB.out
  go_wp2_with fail
  go_at_call 17
  refine (s_same [(0, 3), (1, 0)] 2 _ _ _ _ _ (by omega) (HR1.out.keep (by repeat (first | with_reducible exact Gr.refl _ | with_reducible refine Gr.alloc ?_ _ | with_reducible refine Gr.drew ?_ | with_reducible refine Gr.trans ?_ (by assumption) | with_reducible refine Gr.setCell ?_ (by (try simp); (try omega)) _))) (rows_newb _ _ _ 2 2 (frF [(0, 3), (1, 0)]) _ (by simp) (by intro i j hi hj; rcases (show i = 0 ∨ i = 1 by omega) with rfl | rfl <;> rcases (show j = 0 ∨ j = 1 by omega) with rfl | rfl <;> rfl))).mono ?_
  rintro e w2 ⟨rfl, hb⟩
  have hgw : Gr wn w2 := Gr.trans (by repeat (first | with_reducible exact Gr.refl _ | with_reducible refine Gr.alloc ?_ _ | with_reducible refine Gr.drew ?_ | with_reducible refine Gr.trans ?_ (by assumption) | with_reducible refine Gr.setCell ?_ (by (try simp); (try omega)) _)) hb
  have HG2 := Lib.hid (HG.out.trans hgw); have HB2 := Lib.hid (HB.out.keep hgw)
  clear hb hgw
  clear hl0 b0 b1 b2 b3
  clear p0 p1 p2 p3 p4 p5 HP6 hb6 HR1
  clear HG HB
  have HG := HG2; have HB := HB2
  clear HG2 HB2
  obtain ⟨wn, rfl⟩ : ∃ wn : World, wn = w2 := ⟨_, rfl⟩
  obtain ⟨⟨hl0, b0, b1, b2, b3⟩, -, -⟩ := HB.out
  go_wp2_with fail
  go_at_call 15
  refine (s_hv1 X Y _ _ _ (HP.out.keep (HG.out.trans (by repeat (first | with_reducible exact Gr.refl _ | with_reducible refine Gr.alloc ?_ _ | with_reducible refine Gr.drew ?_ | with_reducible refine Gr.trans ?_ (by assumption) | with_reducible refine Gr.setCell ?_ (by (try simp); (try omega)) _)))) (HL.out.keep (HG.out.trans (by repeat (first | with_reducible exact Gr.refl _ | with_reducible refine Gr.alloc ?_ _ | with_reducible refine Gr.drew ?_ | with_reducible refine Gr.trans ?_ (by assumption) | with_reducible refine Gr.setCell ?_ (by (try simp); (try omega)) _)))) (HB.out.o.keep (by repeat (first | with_reducible exact Gr.refl _ | with_reducible refine Gr.alloc ?_ _ | with_reducible refine Gr.drew ?_ | with_reducible refine Gr.trans ?_ (by assumption) | with_reducible refine Gr.setCell ?_ (by (try simp); (try omega)) _))) (HB.out.q.keep (by repeat (first | with_reducible exact Gr.refl _ | with_reducible refine Gr.alloc ?_ _ | with_reducible refine Gr.drew ?_ | with_reducible refine Gr.trans ?_ (by assumption) | with_reducible refine Gr.setCell ?_ (by (try simp); (try omega)) _))) (rows_newb _ _ _ 6 2 hv1 _ (by simp) (by intro i j hi hj; rcases (show i = 0 ∨ i = 1 by omega) with rfl | rfl <;> rcases (show j = 0 ∨ j = 1 ∨ j = 2 ∨ j = 3 ∨ j = 4 ∨ j = 5 by omega) with rfl | rfl | rfl | rfl | rfl | rfl <;> rfl))).mono ?_
  rintro e w2 ⟨A2, d2, rfl, hr2, -, hb⟩
  have hgw : Gr wn w2 := Gr.trans (by repeat (first | with_reducible exact Gr.refl _ | with_reducible refine Gr.alloc ?_ _ | with_reducible refine Gr.drew ?_ | with_reducible refine Gr.trans ?_ (by assumption) | with_reducible refine Gr.setCell ?_ (by (try simp); (try omega)) _)) hb
  have HG2 := Lib.hid (HG.out.trans hgw); have HB2 := Lib.hid (HB.out.keep hgw)
  have HR2 := Lib.hid hr2
  clear hr2
  clear hb hgw
  clear hl0 b0 b1 b2 b3
  clear HG HB
  have HG := HG2; have HB := HB2
  clear HG2 HB2
  obtain ⟨wn, rfl⟩ : ∃ wn : World, wn = w2 := ⟨_, rfl⟩
  obtain ⟨⟨hl0, b0, b1, b2, b3⟩, -, -⟩ := HB.out
  go_wp2_with fail
  go_at_call 15
  refine (s_hv2 X Y _ _ _ (HP.out.keep (HG.out.trans (by repeat (first | with_reducible exact Gr.refl _ | with_reducible refine Gr.alloc ?_ _ | with_reducible refine Gr.drew ?_ | with_reducible refine Gr.trans ?_ (by assumption) | with_reducible refine Gr.setCell ?_ (by (try simp); (try omega)) _)))) (HL.out.keep (HG.out.trans (by repeat (first | with_reducible exact Gr.refl _ | with_reducible refine Gr.alloc ?_ _ | with_reducible refine Gr.drew ?_ | with_reducible refine Gr.trans ?_ (by assumption) | with_reducible refine Gr.setCell ?_ (by (try simp); (try omega)) _)))) (HB.out.o.keep (by repeat (first | with_reducible exact Gr.refl _ | with_reducible refine Gr.alloc ?_ _ | with_reducible refine Gr.drew ?_ | with_reducible refine Gr.trans ?_ (by assumption) | with_reducible refine Gr.setCell ?_ (by (try simp); (try omega)) _))) (HB.out.q.keep (by repeat (first | with_reducible exact Gr.refl _ | with_reducible refine Gr.alloc ?_ _ | with_reducible refine Gr.drew ?_ | with_reducible refine Gr.trans ?_ (by assumption) | with_reducible refine Gr.setCell ?_ (by (try simp); (try omega)) _))) (rows_newb _ _ _ 6 2 hv2 _ (by simp) (by intro i j hi hj; rcases (show i = 0 ∨ i = 1 by omega) with rfl | rfl <;> rcases (show j = 0 ∨ j = 1 ∨ j = 2 ∨ j = 3 ∨ j = 4 ∨ j = 5 by omega) with rfl | rfl | rfl | rfl | rfl | rfl <;> rfl))).mono ?_
  rintro e w2 ⟨A3, d3, rfl, hr3, hc3, hb⟩
  have hgw : Gr wn w2 := Gr.trans (by repeat (first | with_reducible exact Gr.refl _ | with_reducible refine Gr.alloc ?_ _ | with_reducible refine Gr.drew ?_ | with_reducible refine Gr.trans ?_ (by assumption) | with_reducible refine Gr.setCell ?_ (by (try simp); (try omega)) _)) hb
  have HG2 := Lib.hid (HG.out.trans hgw); have HB2 := Lib.hid (HB.out.keep hgw)
  have HR2n := Lib.hid (HR2.out.keep hgw)
  clear HR2
  have HR2 := HR2n
  clear HR2n
  have HR3 := Lib.hid hr3
  clear hr3
  clear hb hgw
  clear hl0 b0 b1 b2 b3
  clear HG HB
  have HG := HG2; have HB := HB2
  clear HG2 HB2
  obtain ⟨wn, rfl⟩ : ∃ wn : World, wn = w2 := ⟨_, rfl⟩
  obtain ⟨⟨hl0, b0, b1, b2, b3⟩, -, -⟩ := HB.out
  go_wp2_with fail
  go_at_call 15
  refine (s_hv3 X Y _ _ _ (HP.out.keep (HG.out.trans (by repeat (first | with_reducible exact Gr.refl _ | with_reducible refine Gr.alloc ?_ _ | with_reducible refine Gr.drew ?_ | with_reducible refine Gr.trans ?_ (by assumption) | with_reducible refine Gr.setCell ?_ (by (try simp); (try omega)) _)))) (HL.out.keep (HG.out.trans (by repeat (first | with_reducible exact Gr.refl _ | with_reducible refine Gr.alloc ?_ _ | with_reducible refine Gr.drew ?_ | with_reducible refine Gr.trans ?_ (by assumption) | with_reducible refine Gr.setCell ?_ (by (try simp); (try omega)) _)))) (HB.out.o.keep (by repeat (first | with_reducible exact Gr.refl _ | with_reducible refine Gr.alloc ?_ _ | with_reducible refine Gr.drew ?_ | with_reducible refine Gr.trans ?_ (by assumption) | with_reducible refine Gr.setCell ?_ (by (try simp); (try omega)) _))) (HB.out.q.keep (by repeat (first | with_reducible exact Gr.refl _ | with_reducible refine Gr.alloc ?_ _ | with_reducible refine Gr.drew ?_ | with_reducible refine Gr.trans ?_ (by assumption) | with_reducible refine Gr.setCell ?_ (by (try simp); (try omega)) _))) (rows_newb _ _ _ 6 2 hv3 _ (by simp) (by intro i j hi hj; rcases (show i = 0 ∨ i = 1 by omega) with rfl | rfl <;> rcases (show j = 0 ∨ j = 1 ∨ j = 2 ∨ j = 3 ∨ j = 4 ∨ j = 5 by omega) with rfl | rfl | rfl | rfl | rfl | rfl <;> rfl))).mono ?_
  rintro e w2 ⟨A4, d4, rfl, -, -, hb⟩
  have hgw : Gr wn w2 := Gr.trans (by repeat (first | with_reducible exact Gr.refl _ | with_reducible refine Gr.alloc ?_ _ | with_reducible refine Gr.drew ?_ | with_reducible refine Gr.trans ?_ (by assumption) | with_reducible refine Gr.setCell ?_ (by (try simp); (try omega)) _)) hb
  have HG2 := Lib.hid (HG.out.trans hgw); have HB2 := Lib.hid (HB.out.keep hgw)
  have HR2n := Lib.hid (HR2.out.keep hgw)
  clear HR2
  have HR2 := HR2n
  clear HR2n
  have HR3n := Lib.hid (HR3.out.keep hgw)
  clear HR3
  have HR3 := HR3n
  clear HR3n
  clear hb hgw
  clear hl0 b0 b1 b2 b3
  clear HG HB
  have HG := HG2; have HB := HB2
  clear HG2 HB2
  obtain ⟨wn, rfl⟩ : ∃ wn : World, wn = w2 := ⟨_, rfl⟩
  obtain ⟨⟨hl0, b0, b1, b2, b3⟩, -, -⟩ := HB.out
  go_wp2_with fail
  go_at_call 15
  refine (s_hv4 X Y _ _ _ (HP.out.keep (HG.out.trans (by repeat (first | with_reducible exact Gr.refl _ | with_reducible refine Gr.alloc ?_ _ | with_reducible refine Gr.drew ?_ | with_reducible refine Gr.trans ?_ (by assumption) | with_reducible refine Gr.setCell ?_ (by (try simp); (try omega)) _)))) (HL.out.keep (HG.out.trans (by repeat (first | with_reducible exact Gr.refl _ | with_reducible refine Gr.alloc ?_ _ | with_reducible refine Gr.drew ?_ | with_reducible refine Gr.trans ?_ (by assumption) | with_reducible refine Gr.setCell ?_ (by (try simp); (try omega)) _)))) (HB.out.o.keep (by repeat (first | with_reducible exact Gr.refl _ | with_reducible refine Gr.alloc ?_ _ | with_reducible refine Gr.drew ?_ | with_reducible refine Gr.trans ?_ (by assumption) | with_reducible refine Gr.setCell ?_ (by (try simp); (try omega)) _))) (HB.out.q.keep (by repeat (first | with_reducible exact Gr.refl _ | with_reducible refine Gr.alloc ?_ _ | with_reducible refine Gr.drew ?_ | with_reducible refine Gr.trans ?_ (by assumption) | with_reducible refine Gr.setCell ?_ (by (try simp); (try omega)) _))) (rows_newb _ _ _ 6 1 hv4 _ (by simp) (by intro i j hi hj; rcases (show i = 0 by omega) with rfl; rcases (show j = 0 ∨ j = 1 ∨ j = 2 ∨ j = 3 ∨ j = 4 ∨ j = 5 by omega) with rfl | rfl | rfl | rfl | rfl | rfl <;> rfl))).mono ?_
  rintro e w2 ⟨A5, d5, rfl, -, -, hb⟩
  have hgw : Gr wn w2 := Gr.trans (by repeat (first | with_reducible exact Gr.refl _ | with_reducible refine Gr.alloc ?_ _ | with_reducible refine Gr.drew ?_ | with_reducible refine Gr.trans ?_ (by assumption) | with_reducible refine Gr.setCell ?_ (by (try simp); (try omega)) _)) hb
  have HG2 := Lib.hid (HG.out.trans hgw); have HB2 := Lib.hid (HB.out.keep hgw)
  have HR2n := Lib.hid (HR2.out.keep hgw)
  clear HR2
  have HR2 := HR2n
  clear HR2n
  have HR3n := Lib.hid (HR3.out.keep hgw)
  clear HR3
  have HR3 := HR3n
  clear HR3n
  clear hb hgw
  clear hl0 b0 b1 b2 b3
  clear HG HB
  have HG := HG2; have HB := HB2
  clear HG2 HB2
  obtain ⟨wn, rfl⟩ : ∃ wn : World, wn = w2 := ⟨_, rfl⟩
  obtain ⟨⟨hl0, b0, b1, b2, b3⟩, -, -⟩ := HB.out
  go_wp2_with fail
  go_at_call 17
  refine (s_same [(0, 0), (1, 0)] 2 _ _ _ _ _ (by omega) (HR2.out.keep (by repeat (first | with_reducible exact Gr.refl _ | with_reducible refine Gr.alloc ?_ _ | with_reducible refine Gr.drew ?_ | with_reducible refine Gr.trans ?_ (by assumption) | with_reducible refine Gr.setCell ?_ (by (try simp); (try omega)) _))) (rows_newb _ _ _ 2 2 (frF [(0, 0), (1, 0)]) _ (by simp) (by intro i j hi hj; rcases (show i = 0 ∨ i = 1 by omega) with rfl | rfl <;> rcases (show j = 0 ∨ j = 1 by omega) with rfl | rfl <;> rfl))).mono ?_
  rintro e w2 ⟨rfl, hb⟩
  have hgw : Gr wn w2 := Gr.trans (by repeat (first | with_reducible exact Gr.refl _ | with_reducible refine Gr.alloc ?_ _ | with_reducible refine Gr.drew ?_ | with_reducible refine Gr.trans ?_ (by assumption) | with_reducible refine Gr.setCell ?_ (by (try simp); (try omega)) _)) hb
  have HG2 := Lib.hid (HG.out.trans hgw); have HB2 := Lib.hid (HB.out.keep hgw)
  have HR3n := Lib.hid (HR3.out.keep hgw)
  clear HR3
  have HR3 := HR3n
  clear HR3n
  clear hb hgw
  clear hl0 b0 b1 b2 b3
  clear HG HB
  have HG := HG2; have HB := HB2
  clear HG2 HB2
  obtain ⟨wn, rfl⟩ : ∃ wn : World, wn = w2 := ⟨_, rfl⟩
  obtain ⟨⟨hl0, b0, b1, b2, b3⟩, -, -⟩ := HB.out
  go_wp2_with fail
  go_at_call 17
  refine (s_same [(0, 1), (1, 2)] 2 _ _ _ _ _ (by omega) (HR3.out.keep (by repeat (first | with_reducible exact Gr.refl _ | with_reducible refine Gr.alloc ?_ _ | with_reducible refine Gr.drew ?_ | with_reducible refine Gr.trans ?_ (by assumption) | with_reducible refine Gr.setCell ?_ (by (try simp); (try omega)) _))) (rows_newb _ _ _ 2 2 (frF [(0, 1), (1, 2)]) _ (by simp) (by intro i j hi hj; rcases (show i = 0 ∨ i = 1 by omega) with rfl | rfl <;> rcases (show j = 0 ∨ j = 1 by omega) with rfl | rfl <;> rfl))).mono ?_
  rintro e w2 ⟨rfl, hb⟩
  have hgw : Gr wn w2 := Gr.trans (by repeat (first | with_reducible exact Gr.refl _ | with_reducible refine Gr.alloc ?_ _ | with_reducible refine Gr.drew ?_ | with_reducible refine Gr.trans ?_ (by assumption) | with_reducible refine Gr.setCell ?_ (by (try simp); (try omega)) _)) hb
  have HG2 := Lib.hid (HG.out.trans hgw); have HB2 := Lib.hid (HB.out.keep hgw)
  have HR3n := Lib.hid (HR3.out.keep hgw)
  clear HR3
  have HR3 := HR3n
  clear HR3n
  clear hb hgw
  clear hl0 b0 b1 b2 b3
  clear HG HB
  have HG := HG2; have HB := HB2
  clear HG2 HB2
  obtain ⟨wn, rfl⟩ : ∃ wn : World, wn = w2 := ⟨_, rfl⟩
  obtain ⟨⟨hl0, b0, b1, b2, b3⟩, -, -⟩ := HB.out
  go_wp2_with fail
  go_at_call 18
  refine (s_fits_yes X Y _ _ _ (HP.out.keep (HG.out.trans (by repeat (first | with_reducible exact Gr.refl _ | with_reducible refine Gr.alloc ?_ _ | with_reducible refine Gr.drew ?_ | with_reducible refine Gr.trans ?_ (by assumption) | with_reducible refine Gr.setCell ?_ (by (try simp); (try omega)) _)))) (HB.out.o.keep (by repeat (first | with_reducible exact Gr.refl _ | with_reducible refine Gr.alloc ?_ _ | with_reducible refine Gr.drew ?_ | with_reducible refine Gr.trans ?_ (by assumption) | with_reducible refine Gr.setCell ?_ (by (try simp); (try omega)) _))) (HB.out.q.keep (by repeat (first | with_reducible exact Gr.refl _ | with_reducible refine Gr.alloc ?_ _ | with_reducible refine Gr.drew ?_ | with_reducible refine Gr.trans ?_ (by assumption) | with_reducible refine Gr.setCell ?_ (by (try simp); (try omega)) _))) (HR3.out.keep (by repeat (first | with_reducible exact Gr.refl _ | with_reducible refine Gr.alloc ?_ _ | with_reducible refine Gr.drew ?_ | with_reducible refine Gr.trans ?_ (by assumption) | with_reducible refine Gr.setCell ?_ (by (try simp); (try omega)) _))) hc3).mono ?_
  rintro e w2 ⟨rfl, hb⟩
  have hgw : Gr wn w2 := Gr.trans (by repeat (first | with_reducible exact Gr.refl _ | with_reducible refine Gr.alloc ?_ _ | with_reducible refine Gr.drew ?_ | with_reducible refine Gr.trans ?_ (by assumption) | with_reducible refine Gr.setCell ?_ (by (try simp); (try omega)) _)) hb
  have HG2 := Lib.hid (HG.out.trans hgw); have HB2 := Lib.hid (HB.out.keep hgw)
  clear hb hgw
  clear hl0 b0 b1 b2 b3
  clear HG HB
  have HG := HG2; have HB := HB2
  clear HG2 HB2
  obtain ⟨wn, rfl⟩ : ∃ wn : World, wn = w2 := ⟨_, rfl⟩
  obtain ⟨⟨hl0, b0, b1, b2, b3⟩, -, -⟩ := HB.out
  go_wp2_with fail
  go_at_call 18
  refine (s_fits_no X Y _ _ _ (HP.out.keep (HG.out.trans (by repeat (first | with_reducible exact Gr.refl _ | with_reducible refine Gr.alloc ?_ _ | with_reducible refine Gr.drew ?_ | with_reducible refine Gr.trans ?_ (by assumption) | with_reducible refine Gr.setCell ?_ (by (try simp); (try omega)) _)))) (HB.out.o.keep (by repeat (first | with_reducible exact Gr.refl _ | with_reducible refine Gr.alloc ?_ _ | with_reducible refine Gr.drew ?_ | with_reducible refine Gr.trans ?_ (by assumption) | with_reducible refine Gr.setCell ?_ (by (try simp); (try omega)) _))) (HB.out.q.keep (by repeat (first | with_reducible exact Gr.refl _ | with_reducible refine Gr.alloc ?_ _ | with_reducible refine Gr.drew ?_ | with_reducible refine Gr.trans ?_ (by assumption) | with_reducible refine Gr.setCell ?_ (by (try simp); (try omega)) _))) (rows_newb _ _ _ 2 2 (frF [(0, 1), (1, 3)]) _ (by simp) (by intro i j hi hj; rcases (show i = 0 ∨ i = 1 by omega) with rfl | rfl <;> rcases (show j = 0 ∨ j = 1 by omega) with rfl | rfl <;> rfl)) (by omega)).mono ?_
  rintro e w2 ⟨rfl, hb⟩
  have hgw : Gr wn w2 := Gr.trans (by repeat (first | with_reducible exact Gr.refl _ | with_reducible refine Gr.alloc ?_ _ | with_reducible refine Gr.drew ?_ | with_reducible refine Gr.trans ?_ (by assumption) | with_reducible refine Gr.setCell ?_ (by (try simp); (try omega)) _)) hb
  have HG2 := Lib.hid (HG.out.trans hgw); have HB2 := Lib.hid (HB.out.keep hgw)
  clear hb hgw
  clear hl0 b0 b1 b2 b3
  clear HG HB
  have HG := HG2; have HB := HB2
  clear HG2 HB2
  obtain ⟨wn, rfl⟩ : ∃ wn : World, wn = w2 := ⟨_, rfl⟩
  obtain ⟨⟨hl0, b0, b1, b2, b3⟩, -, -⟩ := HB.out
  go_wp2_with fail
  go_at_call 13
  refine (s_valid X Y _ (HP.out.keep (HG.out.trans (by repeat (first | with_reducible exact Gr.refl _ | with_reducible refine Gr.alloc ?_ _ | with_reducible refine Gr.drew ?_ | with_reducible refine Gr.trans ?_ (by assumption) | with_reducible refine Gr.setCell ?_ (by (try simp); (try omega)) _)))) (HB.out.o.keep (by repeat (first | with_reducible exact Gr.refl _ | with_reducible refine Gr.alloc ?_ _ | with_reducible refine Gr.drew ?_ | with_reducible refine Gr.trans ?_ (by assumption) | with_reducible refine Gr.setCell ?_ (by (try simp); (try omega)) _))) (HB.out.q.keep (by repeat (first | with_reducible exact Gr.refl _ | with_reducible refine Gr.alloc ?_ _ | with_reducible refine Gr.drew ?_ | with_reducible refine Gr.trans ?_ (by assumption) | with_reducible refine Gr.setCell ?_ (by (try simp); (try omega)) _)))).mono ?_
  rintro e w2 ⟨rfl, hb⟩
  have hgw : Gr wn w2 := Gr.trans (by repeat (first | with_reducible exact Gr.refl _ | with_reducible refine Gr.alloc ?_ _ | with_reducible refine Gr.drew ?_ | with_reducible refine Gr.trans ?_ (by assumption) | with_reducible refine Gr.setCell ?_ (by (try simp); (try omega)) _)) hb
  have HG2 := Lib.hid (HG.out.trans hgw); have HB2 := Lib.hid (HB.out.keep hgw)
  clear hb hgw
  clear hl0 b0 b1 b2 b3
  clear HG HB
  have HG := HG2; have HB := HB2
  clear HG2 HB2
  obtain ⟨wn, rfl⟩ : ∃ wn : World, wn = w2 := ⟨_, rfl⟩
  obtain ⟨⟨hl0, b0, b1, b2, b3⟩, -, -⟩ := HB.out
  go_wp2_with fail
  go_at_call 13
  refine (s_valid0 _ (HP.out.keep (HG.out.trans (by repeat (first | with_reducible exact Gr.refl _ | with_reducible refine Gr.alloc ?_ _ | with_reducible refine Gr.drew ?_ | with_reducible refine Gr.trans ?_ (by assumption) | with_reducible refine Gr.setCell ?_ (by (try simp); (try omega)) _))))).mono ?_
  rintro e w2 ⟨rfl, hb⟩
  have hgw : Gr wn w2 := Gr.trans (by repeat (first | with_reducible exact Gr.refl _ | with_reducible refine Gr.alloc ?_ _ | with_reducible refine Gr.drew ?_ | with_reducible refine Gr.trans ?_ (by assumption) | with_reducible refine Gr.setCell ?_ (by (try simp); (try omega)) _)) hb
  have HG2 := Lib.hid (HG.out.trans hgw); have HB2 := Lib.hid (HB.out.keep hgw)
  clear hb hgw
  clear hl0 b0 b1 b2 b3
  clear HG HB
  have HG := HG2; have HB := HB2
  clear HG2 HB2
  obtain ⟨wn, rfl⟩ : ∃ wn : World, wn = w2 := ⟨_, rfl⟩
  go_wp2_with fail
  go_ret
  exact ⟨rfl, HG.out.trans (by repeat (first | with_reducible exact Gr.refl _ | with_reducible refine Gr.alloc ?_ _ | with_reducible refine Gr.drew ?_ | with_reducible refine Gr.trans ?_ (by assumption) | with_reducible refine Gr.setCell ?_ (by (try simp); (try omega)) _))⟩
end Go.Proofs.YtohalcookjbaaaaDoor
