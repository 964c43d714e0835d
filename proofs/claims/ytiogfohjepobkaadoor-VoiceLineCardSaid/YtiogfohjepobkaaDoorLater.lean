/-
  schismalaw14.later: a line that begins later.
-/
import Derived.Test.YtiogfohjepobkaaDoorCopy
import Derived.Test.YtiogfohjepobkaaDoorVHd
namespace Go.Proofs.YtiogfohjepobkaaDoor
open Go.RowKit

/-- The first j notes begin and end later. -/
def latF (f : Nat → Nat → Int) (y : Int) (j : Nat) (i c : Nat) : Int := if i < j ∧ c < 2 then f i c + y else f i c
/-- The cells of rows of eight. -/
def row8 (f : Nat → Nat → Int) (p : Nat) : Value := .int .i64 (f (p / 8) (p % 8))
theorem rows8_news {W : World} {b off n : Nat} {f : Nat → Nat → Int} (h : RowsAt W 8 (some ⟨b, off, none⟩) n f) : ∀ j u, (cellsQ (row8 f) (n * 8))[j]? = some u → W.cell? ((⟨b, off, none⟩ : Addr).add j) = some u :=
  cellsQ_news (fun j hj => by
    obtain ⟨b', off', e, -, hc⟩ := h (by omega)
    cases e
    have := hc (j / 8) (by omega) (j % 8) (by omega)
    rw [show off + j / 8 * 8 + j % 8 = off + j by omega] at this
    exact this)
theorem rows8_rowG {W : World} {g n : Nat} {q : Nat → Value} {f : Nat → Nat → Int} (h : RowG W g (n * 8) q) (hq : ∀ i j, i < n → j < 8 → q (i * 8 + j) = .int .i64 (f i j)) : RowsAt W 8 (some ⟨g, 0, none⟩) n f :=
  fun _ => ⟨g, 0, rfl, h.lt, fun i hi j hj => by rw [Nat.zero_add, h.cell (i * 8 + j) (by omega), hq i j hi hj]⟩
theorem row8_at (f : Nat → Nat → Int) (i j : Nat) (hj : j < 8) : row8 f (i * 8 + j) = .int .i64 (f i j) := by
  unfold row8
  rw [show (i * 8 + j) / 8 = i by omega, show (i * 8 + j) % 8 = j by omega]
theorem infoSung : (Tryd.prog.info? 57).map (fun i => (i.zero, i.size, i.bytes)) = some (some (.agg #[.int .i64 0, .int .i64 0, .int .i64 0, .int .i64 0, .int .i64 0, .int .i64 0, .int .i64 0, .int .i64 0]), 8, 64) := by kernel_rfl
/-- What later returns. -/
def LaterP (f : Nat → Nat → Int) (y : Int) (n : Nat) (w : World) (e : Ending) (w' : World) : Prop := ∃ (A : Option Addr) (c : Nat), e = .returned (.slice A n c) ∧ RowsAt w' 8 A n (latF f y n) ∧ Gr w w'

set_option maxRecDepth 100000 in
set_option maxHeartbeats 16000000 in
theorem later_none (A : Option Addr) (c : Nat) (f : Nat → Nat → Int) (y : Int) (w : World) : Calls Tryd.prog 29 #[.slice A 0 c, .int .i64 y] w (LaterP f y 0 w) := by
  cases A with
  | none =>
    go_enter Tryd.func29, Tryd.ntmps29
    go_wp2_with fail
    go_loopw [6] (fun i wr => i = .int .i64 0 ∧ Gr w wr) (fun _ _ => 0)
    case atStart => exact ⟨rfl, (by repeat (first | with_reducible exact Gr.refl _ | with_reducible refine Gr.alloc ?_ _ | with_reducible refine Gr.drew ?_ | with_reducible refine Gr.trans ?_ (by assumption) | with_reducible refine Gr.setCell ?_ (by (try simp); (try omega)) _))⟩
    case round =>
      obtain ⟨rfl, hg⟩ := hrel
      go_wp2_with fail
      go_ret
      exact ⟨_, _, rfl, fun h => absurd h (by omega), hg⟩
  | some a =>
    go_enter Tryd.func29, Tryd.ntmps29
    go_wp2_with fail
    go_loopw [6] (fun i wr => i = .int .i64 0 ∧ Gr w wr) (fun _ _ => 0)
    case atStart => exact ⟨rfl, (by repeat (first | with_reducible exact Gr.refl _ | with_reducible refine Gr.alloc ?_ _ | with_reducible refine Gr.drew ?_ | with_reducible refine Gr.trans ?_ (by assumption) | with_reducible refine Gr.setCell ?_ (by (try simp); (try omega)) _))⟩
    case round =>
      obtain ⟨rfl, hg⟩ := hrel
      go_wp2_with fail
      go_ret
      exact ⟨_, _, rfl, fun h => absurd h (by omega), hg⟩

set_option maxRecDepth 100000 in
set_option maxHeartbeats 16000000 in
theorem later_some (b off : Nat) (n c : Nat) (f : Nat → Nat → Int) (y : Int) (w : World) (hA : RowsAt w 8 (some ⟨b, off, none⟩) n f) (hn0 : 0 < n) (hn : n ≤ 200) (hf : ∀ j, j < n → 0 ≤ f j 0 ∧ f j 0 ≤ 100000 ∧ 0 ≤ f j 1 ∧ f j 1 ≤ 100000) (hy : 0 ≤ y ∧ y ≤ 65535) :
    Calls Tryd.prog 29 #[.slice (some ⟨b, off, none⟩) n c, .int .i64 y] w (LaterP f y n w) := by
  have HA := Lib.hid hA; have HF := Lib.hid hf
  clear hA hf
  obtain ⟨hy0, hy1⟩ := hy
  obtain ⟨b', off', e, hbb, -⟩ := HA.out hn0
  cases e
  obtain ⟨i0, hi, hz0, hz1, hz2⟩ := info_parts infoSung
  go_enter Tryd.func29, Tryd.ntmps29
  go_wp2_with (at_builtin; refine wpList_append_grows _ rfl (.tmp 7) (.tmp 8) 29 rfl 57 i0 (.agg #[.int .i64 0, .int .i64 0, .int .i64 0, .int .i64 0, .int .i64 0, .int .i64 0, .int .i64 0, .int .i64 0]) 8 64 Tryd.underlying29 hi hz0 hz1 hz2 rfl (by decide) _ 0 0 [] rfl (by intro h; cases h) rfl (by intro b hb j u hu; simp at hu) ⟨b, off, none⟩ n c (cellsQ (row8 f) (n * 8)) rfl (cellsQ_len _ _) (rows8_news (HA.out.keep (by repeat (first | with_reducible exact Gr.refl _ | with_reducible refine Gr.alloc ?_ _ | with_reducible refine Gr.drew ?_ | with_reducible refine Gr.trans ?_ (by assumption) | with_reducible refine Gr.setCell ?_ (by (try simp); (try omega)) _)))) (cellsQ_one (fun _ _ => rfl)) (by omega) (by unfold maxLen; omega) (by omega) ?grow)
  case grow =>
    intro v' w3 hown hgrow
    obtain ⟨g, cap, rfl, hg1, HR0, hgr⟩ := copied (size := 8) hown hgrow hn0 rfl
    have hgw : Gr w w3 := (((Gr.refl w).alloc _).trans hgr)
    have hgb : w.heap.size ≤ g := by (try simp only [World.size_alloc] at hg1); omega
    have HGW := Lib.hid hgw; have HR := Lib.hid HR0
    clear hown hgrow hgr hgw HR0 hi hz0 hz1 hz2 hg1
    go_wp2_with fail
    go_loopw [6] (fun i wr => ∃ j : Nat, j ≤ n ∧ i = .int .i64 j ∧ RowG wr g (n * 8) (row8 (latF f y j)) ∧ Gr w wr) (fun i _ => n - (intOf i).toNat)
    case atStart => exact ⟨0, Nat.zero_le _, rfl, HR.out.congr (fun p _ => by simp [row8, latF]), HGW.out⟩
    case round =>
      obtain ⟨j, hj, rfl, hr, hg⟩ := hrel
      have HRJ := Lib.hid hr; have HG := Lib.hid hg
      clear hr hg
      by_cases hlt : j < n
      · have c0 := HRJ.out.cell (j * 8) (by omega)
        have c1 := HRJ.out.cell (j * 8 + 1) (by omega)
        have e0 : row8 (latF f y j) (j * 8) = .int .i64 (f j 0) := (row8_at _ j 0 (by omega)).trans (by simp [latF])
        have e1 : row8 (latF f y j) (j * 8 + 1) = .int .i64 (f j 1) := (row8_at _ j 1 (by omega)).trans (by simp [latF])
        rw [e0] at c0
        rw [e1] at c1
        have f0 := HRJ.out.froz (j * 8)
        have f1 := HRJ.out.froz (j * 8 + 1)
        have hgl := HRJ.out.lt
        obtain ⟨q0, q1, q2, q3⟩ := HF.out j hlt
        have hw0 : IntKind.i64.wrap (f j 0 + y) = f j 0 + y := IntWalk.i64_in _ ⟨by omega, by omega⟩
        have hw1 : IntKind.i64.wrap (f j 1 + y) = f j 1 + y := IntWalk.i64_in _ ⟨by omega, by omega⟩
        obtain ⟨wp, rfl⟩ : ∃ wp : World, wp = wr := ⟨_, rfl⟩
        clear e0 e1
        have HN : Hid (RowG ((wp.setCell ⟨g, j * 8, none⟩ (.int .i64 (f j 0 + y))).setCell ⟨g, j * 8 + 1, none⟩ (.int .i64 (f j 1 + y))) g (n * 8) (row8 (latF f y (j + 1)))) := Lib.hid (((HRJ.out.set (i := j * 8) (by omega) _).set (i := j * 8 + 1) (by omega) _).congr (fun p hp => by
          show (if p = j * 8 + 1 then Value.int .i64 (f j 1 + y) else if p = j * 8 then .int .i64 (f j 0 + y) else row8 (latF f y j) p) = row8 (latF f y (j + 1)) p
          by_cases a1 : p = j * 8 + 1
          · subst a1; rw [if_pos rfl, row8_at _ j 1 (by omega)]; simp [latF]
          · rw [if_neg a1]
            by_cases a0 : p = j * 8
            · subst a0; rw [if_pos rfl, show row8 (latF f y (j + 1)) (j * 8) = _ from row8_at _ j 0 (by omega)]; simp [latF]
            · rw [if_neg a0]
              unfold row8 latF
              by_cases a2 : p / 8 < j
              · have : p / 8 < j + 1 := by omega
                simp [a2, this]
              · by_cases a3 : p % 8 < 2
                · have : ¬ p / 8 < j + 1 := by omega
                  simp [a2, this]
                · simp [a3]))
        go_wp2_with fail
        go_roundw
        case rel => exact ⟨j + 1, by omega, by go_num, HN.out, Gr.setCell (Gr.setCell HG.out (by (try simp); omega) _) (by (try simp); omega) _⟩
        case measure => simp [intOf]; omega
      · obtain rfl : n = j := by omega
        obtain ⟨wp, rfl⟩ : ∃ wp : World, wp = wr := ⟨_, rfl⟩
        go_wp2_with fail
        go_ret
        exact ⟨_, _, rfl, rows8_rowG HRJ.out (fun i j _ hj => row8_at _ i j hj), HG.out⟩
/-- later at lines whose ticks are in range. -/
theorem later_ok (A : Option Addr) (n c : Nat) (f : Nat → Nat → Int) (y : Int) (w : World) (hA : RowsAt w 8 A n f) (hn : n ≤ 200) (hf : ∀ j, j < n → 0 ≤ f j 0 ∧ f j 0 ≤ 100000 ∧ 0 ≤ f j 1 ∧ f j 1 ≤ 100000) (hy : 0 ≤ y ∧ y ≤ 65535) :
    Calls Tryd.prog 29 #[.slice A n c, .int .i64 y] w (LaterP f y n w) := by
  by_cases h : n = 0
  · subst h; exact later_none A c f y w
  · obtain ⟨b, off, rfl, -⟩ := hA (by omega)
    exact later_some b off n c f y w hA (by omega) hn hf hy
end Go.Proofs.YtiogfohjepobkaaDoor
