/-
  package voice: Line refuses what is not valid.
-/
import Derived.Test.YtiogfohjepobkaaDoorV2
import Derived.Test.YtiogfohjepobkaaDoorRowsAt
namespace Go.Proofs.YtiogfohjepobkaaDoor
open Go.RowKit

/-- The eight cells of a sung note among others. -/
theorem RowsAt.eight {w : World} {n k : Nat} {A : Option Addr} {f : Nat → Nat → Int} (h : RowsAt w 8 A n f) (hk : k < n) : ∃ b off, A = some ⟨b, off, none⟩ ∧ b < w.heap.size ∧
    w.cell? ⟨b, off + k * 8, none⟩ = some (.int .i64 (f k 0)) ∧
    w.cell? ⟨b, off + k * 8 + 1, none⟩ = some (.int .i64 (f k 1)) ∧
    w.cell? ⟨b, off + k * 8 + 2, none⟩ = some (.int .i64 (f k 2)) ∧
    w.cell? ⟨b, off + k * 8 + 3, none⟩ = some (.int .i64 (f k 3)) ∧
    w.cell? ⟨b, off + k * 8 + 4, none⟩ = some (.int .i64 (f k 4)) ∧
    w.cell? ⟨b, off + k * 8 + 5, none⟩ = some (.int .i64 (f k 5)) ∧
    w.cell? ⟨b, off + k * 8 + 6, none⟩ = some (.int .i64 (f k 6)) ∧
    w.cell? ⟨b, off + k * 8 + 7, none⟩ = some (.int .i64 (f k 7)) := by
  obtain ⟨b, off, e, hb, hc⟩ := h.at_ hk
  exact ⟨b, off, e, hb, hc 0 (by omega), hc 1 (by omega), hc 2 (by omega), hc 3 (by omega), hc 4 (by omega), hc 5 (by omega), hc 6 (by omega), hc 7 (by omega)⟩
/-- A sung note that begins no sooner than e is valid. -/
def sungOk (e : Int) (r : Nat → Int) : Bool := decide (e ≤ r 0 ∧ r 0 < r 1 ∧ r 1 ≤ 100000) && allIn ⟨r 2, r 3, r 4, r 5, r 6, r 7⟩ 48 6
/-- When the first j notes have ended. -/
def lineEnd (f : Nat → Nat → Int) : Nat → Int
  | 0 => 0
  | j + 1 => f j 1
/-- The first j notes are valid and follow one another. -/
def lineGood (f : Nat → Nat → Int) : Nat → Bool
  | 0 => true
  | j + 1 => lineGood f j && sungOk (lineEnd f j) (f j)

set_option maxRecDepth 100000 in
set_option maxHeartbeats 4000000 in
theorem line_bad1 (l0 l1 l2 l3 l4 l5 h0 h1 h2 h3 h4 h5 st br : Int) (A : Option Addr) (n c : Nat) (w : World) (hP : Primes w) (hok : voiceOk ⟨l0, l1, l2, l3, l4, l5⟩ ⟨h0, h1, h2, h3, h4, h5⟩ st br = false) :
    Calls Tryd.prog 20 #[.agg #[.int .i64 l0, .int .i64 l1, .int .i64 l2, .int .i64 l3, .int .i64 l4, .int .i64 l5, .int .i64 h0, .int .i64 h1, .int .i64 h2, .int .i64 h3, .int .i64 h4, .int .i64 h5, .int .i64 st, .int .i64 br], .slice A n c] w fun e w' => e = .returned (.tuple #[.int .i64 0, .int .i64 1]) ∧ Gr w w' := by
  have HP := Lib.hid hP
  have hW := fun W (h : Primes W) => voiceValid_any l0 l1 l2 l3 l4 l5 h0 h1 h2 h3 h4 h5 st br W h
  simp only [hok] at hW
  have HW := Lib.hid hW
  clear hW hok hP
  go_enter Tryd.func20, Tryd.ntmps20
  go_wp2_with fail
  (go_at_call 11; with_reducible refine (HW.out _ (HP.out.keep (by repeat (first | with_reducible exact Gr.refl _ | with_reducible refine Gr.alloc ?_ _ | with_reducible refine Gr.drew ?_ | with_reducible refine Gr.trans ?_ (by assumption) | with_reducible refine Gr.setCell ?_ (by (try simp); (try omega)) _)))).mono ?_; rintro e w' ⟨rfl, hb⟩; have hz := hb.le; obtain ⟨hc, hf⟩ := hb.cells; have hn := hb.cellsN; (try simp only [World.size_alloc] at hc hf hz hn); (try simp only [World.size_setCell] at hc hf hz hn); (try simp only [World.size_drew] at hc hf hz hn))
  go_wp2_with fail
  go_ret2
  exact ⟨rfl, (by repeat (first | with_reducible exact Gr.refl _ | with_reducible refine Gr.alloc ?_ _ | with_reducible refine Gr.drew ?_ | with_reducible refine Gr.trans ?_ (by assumption) | with_reducible refine Gr.setCell ?_ (by (try simp); (try omega)) _))⟩

set_option maxRecDepth 100000 in
set_option maxHeartbeats 4000000 in
theorem line_bad2 (l0 l1 l2 l3 l4 l5 h0 h1 h2 h3 h4 h5 st br : Int) (A : Option Addr) (n c : Nat) (w : World) (hP : Primes w) (hok : voiceOk ⟨l0, l1, l2, l3, l4, l5⟩ ⟨h0, h1, h2, h3, h4, h5⟩ st br = true) (hn : 200 < n) :
    Calls Tryd.prog 20 #[.agg #[.int .i64 l0, .int .i64 l1, .int .i64 l2, .int .i64 l3, .int .i64 l4, .int .i64 l5, .int .i64 h0, .int .i64 h1, .int .i64 h2, .int .i64 h3, .int .i64 h4, .int .i64 h5, .int .i64 st, .int .i64 br], .slice A n c] w fun e w' => e = .returned (.tuple #[.int .i64 0, .int .i64 1]) ∧ Gr w w' := by
  have HP := Lib.hid hP
  have hW := fun W (h : Primes W) => voiceValid_any l0 l1 l2 l3 l4 l5 h0 h1 h2 h3 h4 h5 st br W h
  simp only [hok] at hW
  have HW := Lib.hid hW
  clear hW hok hP
  go_enter Tryd.func20, Tryd.ntmps20
  go_wp2_with fail
  (go_at_call 11; with_reducible refine (HW.out _ (HP.out.keep (by repeat (first | with_reducible exact Gr.refl _ | with_reducible refine Gr.alloc ?_ _ | with_reducible refine Gr.drew ?_ | with_reducible refine Gr.trans ?_ (by assumption) | with_reducible refine Gr.setCell ?_ (by (try simp); (try omega)) _)))).mono ?_; rintro e w' ⟨rfl, hb⟩; have hz := hb.le; obtain ⟨hc, hf⟩ := hb.cells; have hn := hb.cellsN; (try simp only [World.size_alloc] at hc hf hz hn); (try simp only [World.size_setCell] at hc hf hz hn); (try simp only [World.size_drew] at hc hf hz hn))
  go_wp2_with fail
  go_ret2
  exact ⟨rfl, (by repeat (first | with_reducible exact Gr.refl _ | with_reducible refine Gr.alloc ?_ _ | with_reducible refine Gr.drew ?_ | with_reducible refine Gr.trans ?_ (by assumption) | with_reducible refine Gr.setCell ?_ (by (try simp); (try omega)) _))⟩

set_option maxRecDepth 100000 in
set_option maxHeartbeats 8000000 in
theorem line_bad3 (l0 l1 l2 l3 l4 l5 h0 h1 h2 h3 h4 h5 st br : Int) (A : Option Addr) (n c : Nat) (f : Nat → Nat → Int) (w : World) (hP : Primes w) (hR : RowsAt w 8 A n f) (hok : voiceOk ⟨l0, l1, l2, l3, l4, l5⟩ ⟨h0, h1, h2, h3, h4, h5⟩ st br = true) (hn : n ≤ 200) (hbad : lineGood f n = false) :
    Calls Tryd.prog 20 #[.agg #[.int .i64 l0, .int .i64 l1, .int .i64 l2, .int .i64 l3, .int .i64 l4, .int .i64 l5, .int .i64 h0, .int .i64 h1, .int .i64 h2, .int .i64 h3, .int .i64 h4, .int .i64 h5, .int .i64 st, .int .i64 br], .slice A n c] w fun e w' => e = .returned (.tuple #[.int .i64 0, .int .i64 1]) ∧ Gr w w' := by
  have HP := Lib.hid hP
  have HR := Lib.hid hR
  have HBAD := Lib.hid hbad
  have hW := fun W (h : Primes W) => voiceValid_any l0 l1 l2 l3 l4 l5 h0 h1 h2 h3 h4 h5 st br W h
  simp only [hok] at hW
  have HW := Lib.hid hW
  clear hW hok hP hR hbad
  go_enter Tryd.func20, Tryd.ntmps20
  go_wp2_with fail
  (go_at_call 11; with_reducible refine (HW.out _ (HP.out.keep (by repeat (first | with_reducible exact Gr.refl _ | with_reducible refine Gr.alloc ?_ _ | with_reducible refine Gr.drew ?_ | with_reducible refine Gr.trans ?_ (by assumption) | with_reducible refine Gr.setCell ?_ (by (try simp); (try omega)) _)))).mono ?_; rintro e w' ⟨rfl, hb⟩; have hz := hb.le; obtain ⟨hc, hf⟩ := hb.cells; have hn := hb.cellsN; (try simp only [World.size_alloc] at hc hf hz hn); (try simp only [World.size_setCell] at hc hf hz hn); (try simp only [World.size_drew] at hc hf hz hn))
  have HG := Lib.hid (show Gr w w' from (by repeat (first | with_reducible exact Gr.refl _ | with_reducible refine Gr.alloc ?_ _ | with_reducible refine Gr.drew ?_ | with_reducible refine Gr.trans ?_ (by assumption) | with_reducible refine Gr.setCell ?_ (by (try simp); (try omega)) _)))
  clear hb hz hc hf
  obtain ⟨W0, rfl⟩ : ∃ W0 : World, W0 = w' := ⟨_, rfl⟩
  go_wp2_with fail
  go_loopw [6, 23] (fun e i wr => ∃ j : Nat, j ≤ n ∧ i = .int .i64 j ∧ e = .int .i64 (lineEnd f j) ∧ lineGood f j = true ∧ Gr W0 wr) (fun _ i _ => n - (intOf i).toNat)
  case atStart => exact ⟨0, Nat.zero_le _, rfl, rfl, rfl, Gr.refl _⟩
  case round =>
    obtain ⟨j, hj, rfl, rfl, hgd, hg⟩ := hrel
    have HGW := Lib.hid hg
    have HGD := Lib.hid hgd
    have hlt : j < n := by
      rcases Nat.lt_or_ge j n with h | h
      · exact h
      · exfalso
        obtain rfl : j = n := by omega
        have := HBAD.out
        rw [hgd] at this
        cases this
    clear hg hgd
    obtain ⟨b, off, rfl, hbl, c0, c1, c2, c3, c4, c5, c6, c7⟩ := (HR.out.keep (HG.out.trans HGW.out)).eight hlt
    have hI := fun W => pinterval_any (f j 2) (f j 3) (f j 4) (f j 5) (f j 6) (f j 7) W
    by_cases hs : lineEnd f j ≤ f j 0 ∧ f j 0 < f j 1 ∧ f j 1 ≤ 100000
    · rcases tf (allIn ⟨f j 2, f j 3, f j 4, f j 5, f j 6, f j 7⟩ 48 6) with hi | hi
      · have HS : Hid (lineGood f (j + 1) = true) := Lib.hid (by simp [lineGood, HGD.out, sungOk, hs, hi])
        simp only [hi] at hI
        have HI := Lib.hid hI
        obtain ⟨s1, s2, s3⟩ := hs
        clear hI hi
        go_wp2_with fail
        (go_at_call 32; with_reducible refine (HI.out _).mono ?_; rintro e w' ⟨rfl, hb⟩; have hz := hb.le; obtain ⟨hc, hf⟩ := hb.cells; have hn := hb.cellsN; (try simp only [World.size_alloc] at hc hf hz hn); (try simp only [World.size_setCell] at hc hf hz hn); (try simp only [World.size_drew] at hc hf hz hn))
        go_wp2_with fail
        go_roundw
        case rel => exact ⟨j + 1, by omega, by go_num, rfl, HS.out, HGW.out.trans (by repeat (first | with_reducible exact Gr.refl _ | with_reducible refine Gr.alloc ?_ _ | with_reducible refine Gr.drew ?_ | with_reducible refine Gr.trans ?_ (by assumption) | with_reducible refine Gr.setCell ?_ (by (try simp); (try omega)) _))⟩
        case measure => simp [intOf]; omega
      · simp only [hi] at hI
        have HI := Lib.hid hI
        obtain ⟨s1, s2, s3⟩ := hs
        clear hI hi
        go_wp2_with fail
        (go_at_call 32; with_reducible refine (HI.out _).mono ?_; rintro e w' ⟨rfl, hb⟩; have hz := hb.le; obtain ⟨hc, hf⟩ := hb.cells; have hn := hb.cellsN; (try simp only [World.size_alloc] at hc hf hz hn); (try simp only [World.size_setCell] at hc hf hz hn); (try simp only [World.size_drew] at hc hf hz hn))
        go_wp2_with fail
        go_ret2
        exact ⟨rfl, (HG.out.trans HGW.out).trans (by repeat (first | with_reducible exact Gr.refl _ | with_reducible refine Gr.alloc ?_ _ | with_reducible refine Gr.drew ?_ | with_reducible refine Gr.trans ?_ (by assumption) | with_reducible refine Gr.setCell ?_ (by (try simp); (try omega)) _))⟩
    · clear hI
      rcases (by omega : f j 0 < lineEnd f j ∨ (lineEnd f j ≤ f j 0 ∧ f j 1 ≤ f j 0) ∨ (lineEnd f j ≤ f j 0 ∧ f j 0 < f j 1 ∧ 100000 < f j 1)) with s1 | ⟨s1, s2⟩ | ⟨s1, s2, s3⟩
      all_goals
        clear hs
        obtain ⟨wp, rfl⟩ : ∃ wp : World, wp = wr := ⟨_, rfl⟩
        go_wp2_with fail
        go_ret2
        exact ⟨rfl, (HG.out.trans HGW.out).trans (by repeat (first | with_reducible exact Gr.refl _ | with_reducible refine Gr.alloc ?_ _ | with_reducible refine Gr.drew ?_ | with_reducible refine Gr.trans ?_ (by assumption) | with_reducible refine Gr.setCell ?_ (by (try simp); (try omega)) _))⟩
end Go.Proofs.YtiogfohjepobkaaDoor
