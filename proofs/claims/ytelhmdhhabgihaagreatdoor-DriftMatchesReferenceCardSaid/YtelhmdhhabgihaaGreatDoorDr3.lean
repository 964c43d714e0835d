/-
  drift.kind and walk: shifts as values with a method.
-/
import Derived.Test.YtelhmdhhabgihaaGreatDoorWkX
import Derived.Test.YtelhmdhhabgihaaGreatDoorPCmp
import Derived.Test.YtelhmdhhabgihaaGreatDoorMul
namespace Go.Proofs.YtelhmdhhabgihaaGreatDoor
open Go.RowKit

/-- Whether a shift is upward (1), downward (-1) or none. -/
def signV (v : V6) : Int := cmpP (V6.sub ⟨v.x0 * 12, v.x1 * 12, v.x2 * 12, v.x3 * 12, v.x4 * 12, v.x5 * 12⟩ ⟨-(v.x0 * 12), -(v.x1 * 12), -(v.x2 * 12), -(v.x3 * 12), -(v.x4 * 12), -(v.x5 * 12)⟩)
theorem mul12_in {v0 v1 v2 v3 v4 v5 : Int} (h : allIn ⟨v0, v1, v2, v3, v4, v5⟩ 48 6 = true) : allIn ⟨v0 * 12, v1 * 12, v2 * 12, v3 * 12, v4 * 12, v5 * 12⟩ 576 6 = true ∧ allIn ⟨-(v0 * 12), -(v1 * 12), -(v2 * 12), -(v3 * 12), -(v4 * 12), -(v5 * 12)⟩ 576 6 = true := by
  simp only [allIn, V6.get, Bool.and_eq_true, decide_eq_true_eq] at h ⊢
  constructor <;> (repeat' apply And.intro) <;> first | rfl | trivial | omega
/-- A shift as a value with a method. -/
def shV (v : V6) : Value := if signV v = 1 then .iface 84 (.agg #[.int .i64 (v.x0 * 12), .int .i64 (v.x1 * 12), .int .i64 (v.x2 * 12), .int .i64 (v.x3 * 12), .int .i64 (v.x4 * 12), .int .i64 (v.x5 * 12)])
  else if signV v = -1 then .iface 86 (.agg #[.int .i64 (-(v.x0 * 12)), .int .i64 (-(v.x1 * 12)), .int .i64 (-(v.x2 * 12)), .int .i64 (-(v.x3 * 12)), .int .i64 (-(v.x4 * 12)), .int .i64 (-(v.x5 * 12))])
  else .iface 48 (.agg #[])
theorem signV_cases (v : V6) : signV v = 1 ∨ signV v = -1 ∨ signV v = 0 := by
  unfold signV
  rcases cmpP_cases (V6.sub ⟨v.x0 * 12, v.x1 * 12, v.x2 * 12, v.x3 * 12, v.x4 * 12, v.x5 * 12⟩ ⟨-(v.x0 * 12), -(v.x1 * 12), -(v.x2 * 12), -(v.x3 * 12), -(v.x4 * 12), -(v.x5 * 12)⟩) with h | h | h
  · exact .inr (.inl h.2)
  · exact .inr (.inr h.2)
  · exact .inl h.2
theorem shV_iface (v : V6) : ∃ (T : TypeId) (X : Value), shV v = .iface T X := by
  unfold shV
  split
  · exact ⟨_, _, rfl⟩
  · split <;> exact ⟨_, _, rfl⟩
set_option maxRecDepth 100000 in
set_option maxHeartbeats 16000000 in
theorem kind_any (v0 v1 v2 v3 v4 v5 : Int) (w : World) (hP : Primes w) (hv : allIn ⟨v0, v1, v2, v3, v4, v5⟩ 48 6 = true) :
    Calls Tryz.prog 30 #[.agg #[.int .i64 v0, .int .i64 v1, .int .i64 v2, .int .i64 v3, .int .i64 v4, .int .i64 v5]] w fun e w' => e = .returned (shV ⟨v0, v1, v2, v3, v4, v5⟩) ∧ Gr w w' := by
  obtain ⟨h1, h2⟩ := mul12_in hv
  have HOF := Lib.hid (fun W => pof_ok v0 v1 v2 v3 v4 v5 W hv)
  have hDV := fun W => div_ok 0 0 0 0 0 0 (v0 * 12) (v1 * 12) (v2 * 12) (v3 * 12) (v4 * 12) (v5 * 12) W (by decide) h1 (by simp only [Int.zero_sub]; exact h2)
  simp only [Int.zero_sub] at hDV
  have HDV := Lib.hid hDV
  clear hDV
  have hCM := fun W (g : Gr w W) => pcmp_ok (v0 * 12) (v1 * 12) (v2 * 12) (v3 * 12) (v4 * 12) (v5 * 12) (-(v0 * 12)) (-(v1 * 12)) (-(v2 * 12)) (-(v3 * 12)) (-(v4 * 12)) (-(v5 * 12)) W (hP.keep g) h1 h2
  have hS : cmpP (V6.sub ⟨v0 * 12, v1 * 12, v2 * 12, v3 * 12, v4 * 12, v5 * 12⟩ ⟨-(v0 * 12), -(v1 * 12), -(v2 * 12), -(v3 * 12), -(v4 * 12), -(v5 * 12)⟩) = signV ⟨v0, v1, v2, v3, v4, v5⟩ := rfl
  rw [hS] at hCM
  have hcs := signV_cases ⟨v0, v1, v2, v3, v4, v5⟩
  have hR : ∀ X, signV ⟨v0, v1, v2, v3, v4, v5⟩ = X → shV ⟨v0, v1, v2, v3, v4, v5⟩ = if X = 1 then .iface 84 (.agg #[.int .i64 (v0 * 12), .int .i64 (v1 * 12), .int .i64 (v2 * 12), .int .i64 (v3 * 12), .int .i64 (v4 * 12), .int .i64 (v5 * 12)]) else if X = -1 then .iface 86 (.agg #[.int .i64 (-(v0 * 12)), .int .i64 (-(v1 * 12)), .int .i64 (-(v2 * 12)), .int .i64 (-(v3 * 12)), .int .i64 (-(v4 * 12)), .int .i64 (-(v5 * 12))]) else .iface 48 (.agg #[]) := fun X h => by unfold shV; rw [h]
  generalize shV ⟨v0, v1, v2, v3, v4, v5⟩ = V at *
  clear hS hP hv h1 h2
  generalize signV ⟨v0, v1, v2, v3, v4, v5⟩ = X at *
  replace hR := hR X rfl
  rcases hcs with rfl | rfl | rfl
  · have HR : Hid (V = .iface 84 (.agg #[.int .i64 (v0 * 12), .int .i64 (v1 * 12), .int .i64 (v2 * 12), .int .i64 (v3 * 12), .int .i64 (v4 * 12), .int .i64 (v5 * 12)])) := Lib.hid (by rw [hR]; rfl)
    have HCM := Lib.hid hCM
    clear hR hCM
    go_enter Tryz.func30, Tryz.ntmps30
    go_wp2_with fail
    (go_at_call 48; with_reducible refine (HOF.out _).mono ?_; rintro e w' ⟨rfl, hb⟩; have hz := hb.le; obtain ⟨hc, hf⟩ := hb.cells; have hn := hb.cellsN; (try simp only [World.size_alloc] at hc hf hz hn); (try simp only [World.size_setCell] at hc hf hz hn); (try simp only [World.size_drew] at hc hf hz hn))
    go_wp2_with fail
    (go_at_call 49; with_reducible refine (HDV.out _).mono ?_; rintro e w' ⟨rfl, hb⟩; have hz := hb.le; obtain ⟨hc, hf⟩ := hb.cells; have hn := hb.cellsN; (try simp only [World.size_alloc] at hc hf hz hn); (try simp only [World.size_setCell] at hc hf hz hn); (try simp only [World.size_drew] at hc hf hz hn))
    go_wp2_with fail
    (go_at_call 22; with_reducible refine (HCM.out _ (by repeat (first | with_reducible exact Gr.refl _ | with_reducible refine Gr.alloc ?_ _ | with_reducible refine Gr.drew ?_ | with_reducible refine Gr.trans ?_ (by assumption) | with_reducible refine Gr.setCell ?_ (by (try simp); (try omega)) _))).mono ?_; rintro e w' ⟨rfl, hb⟩; have hz := hb.le; obtain ⟨hc, hf⟩ := hb.cells; have hn := hb.cellsN; (try simp only [World.size_alloc] at hc hf hz hn); (try simp only [World.size_setCell] at hc hf hz hn); (try simp only [World.size_drew] at hc hf hz hn))
    go_wp2_with fail
    go_ret
    exact ⟨HR.out.symm ▸ rfl, (by repeat (first | with_reducible exact Gr.refl _ | with_reducible refine Gr.alloc ?_ _ | with_reducible refine Gr.drew ?_ | with_reducible refine Gr.trans ?_ (by assumption) | with_reducible refine Gr.setCell ?_ (by (try simp); (try omega)) _))⟩
  · have HR : Hid (V = .iface 86 (.agg #[.int .i64 (-(v0 * 12)), .int .i64 (-(v1 * 12)), .int .i64 (-(v2 * 12)), .int .i64 (-(v3 * 12)), .int .i64 (-(v4 * 12)), .int .i64 (-(v5 * 12))])) := Lib.hid (by rw [hR]; rfl)
    have HCM := Lib.hid hCM
    clear hR hCM
    go_enter Tryz.func30, Tryz.ntmps30
    go_wp2_with fail
    (go_at_call 48; with_reducible refine (HOF.out _).mono ?_; rintro e w' ⟨rfl, hb⟩; have hz := hb.le; obtain ⟨hc, hf⟩ := hb.cells; have hn := hb.cellsN; (try simp only [World.size_alloc] at hc hf hz hn); (try simp only [World.size_setCell] at hc hf hz hn); (try simp only [World.size_drew] at hc hf hz hn))
    go_wp2_with fail
    (go_at_call 49; with_reducible refine (HDV.out _).mono ?_; rintro e w' ⟨rfl, hb⟩; have hz := hb.le; obtain ⟨hc, hf⟩ := hb.cells; have hn := hb.cellsN; (try simp only [World.size_alloc] at hc hf hz hn); (try simp only [World.size_setCell] at hc hf hz hn); (try simp only [World.size_drew] at hc hf hz hn))
    go_wp2_with fail
    (go_at_call 22; with_reducible refine (HCM.out _ (by repeat (first | with_reducible exact Gr.refl _ | with_reducible refine Gr.alloc ?_ _ | with_reducible refine Gr.drew ?_ | with_reducible refine Gr.trans ?_ (by assumption) | with_reducible refine Gr.setCell ?_ (by (try simp); (try omega)) _))).mono ?_; rintro e w' ⟨rfl, hb⟩; have hz := hb.le; obtain ⟨hc, hf⟩ := hb.cells; have hn := hb.cellsN; (try simp only [World.size_alloc] at hc hf hz hn); (try simp only [World.size_setCell] at hc hf hz hn); (try simp only [World.size_drew] at hc hf hz hn))
    go_wp2_with fail
    go_ret
    exact ⟨HR.out.symm ▸ rfl, (by repeat (first | with_reducible exact Gr.refl _ | with_reducible refine Gr.alloc ?_ _ | with_reducible refine Gr.drew ?_ | with_reducible refine Gr.trans ?_ (by assumption) | with_reducible refine Gr.setCell ?_ (by (try simp); (try omega)) _))⟩
  · have HR : Hid (V = .iface 48 (.agg #[])) := Lib.hid (by rw [hR]; rfl)
    have HCM := Lib.hid hCM
    clear hR hCM
    go_enter Tryz.func30, Tryz.ntmps30
    go_wp2_with fail
    (go_at_call 48; with_reducible refine (HOF.out _).mono ?_; rintro e w' ⟨rfl, hb⟩; have hz := hb.le; obtain ⟨hc, hf⟩ := hb.cells; have hn := hb.cellsN; (try simp only [World.size_alloc] at hc hf hz hn); (try simp only [World.size_setCell] at hc hf hz hn); (try simp only [World.size_drew] at hc hf hz hn))
    go_wp2_with fail
    (go_at_call 49; with_reducible refine (HDV.out _).mono ?_; rintro e w' ⟨rfl, hb⟩; have hz := hb.le; obtain ⟨hc, hf⟩ := hb.cells; have hn := hb.cellsN; (try simp only [World.size_alloc] at hc hf hz hn); (try simp only [World.size_setCell] at hc hf hz hn); (try simp only [World.size_drew] at hc hf hz hn))
    go_wp2_with fail
    (go_at_call 22; with_reducible refine (HCM.out _ (by repeat (first | with_reducible exact Gr.refl _ | with_reducible refine Gr.alloc ?_ _ | with_reducible refine Gr.drew ?_ | with_reducible refine Gr.trans ?_ (by assumption) | with_reducible refine Gr.setCell ?_ (by (try simp); (try omega)) _))).mono ?_; rintro e w' ⟨rfl, hb⟩; have hz := hb.le; obtain ⟨hc, hf⟩ := hb.cells; have hn := hb.cellsN; (try simp only [World.size_alloc] at hc hf hz hn); (try simp only [World.size_setCell] at hc hf hz hn); (try simp only [World.size_drew] at hc hf hz hn))
    go_wp2_with fail
    go_ret
    exact ⟨HR.out.symm ▸ rfl, (by repeat (first | with_reducible exact Gr.refl _ | with_reducible refine Gr.alloc ?_ _ | with_reducible refine Gr.drew ?_ | with_reducible refine Gr.trans ?_ (by assumption) | with_reducible refine Gr.setCell ?_ (by (try simp); (try omega)) _))⟩
/-- Values in block S, while all else below N is as it was in W1. -/
structure VArr (n : Nat) (u : Nat → Value) (S N : Nat) (W1 wr : World) : Prop where
  but : But S N W1 wr
  size : N ≤ wr.heap.size
  lt : S < N
  cell : ∀ j, j < n → wr.cell? ⟨S, j, none⟩ = some (u j)
  froz : ∀ j, wr.frozen? ⟨S, j, none⟩ = false
theorem VArr.gr {n : Nat} {u : Nat → Value} {S N : Nat} {W1 wr W' : World} (h : VArr n u S N W1 wr) (g : Gr wr W') : VArr n u S N W1 W' := by
  have hl : S < wr.heap.size := Nat.lt_of_lt_of_le h.lt h.size
  exact ⟨h.but.call g h.size, Nat.le_trans h.size g.le, h.lt, fun j hj => (Below.cell (p := ⟨S, j, none⟩) g hl).trans (h.cell j hj), fun j => (Below.frozen (p := ⟨S, j, none⟩) g hl).trans (h.froz j)⟩
theorem VArr.congr {n : Nat} {u u' : Nat → Value} {S N : Nat} {W1 wr : World} (h : VArr n u S N W1 wr) (e : ∀ j, j < n → u j = u' j) : VArr n u' S N W1 wr := ⟨h.but, h.size, h.lt, fun j hj => by rw [h.cell j hj, e j hj], h.froz⟩
theorem VArr.store {n : Nat} {u : Nat → Value} {S N : Nat} {W1 wr : World} (h : VArr n u S N W1 wr) {k : Nat} (hk : k < n) (v : Value) : VArr n (fun j => if j = k then v else u j) S N W1 (wr.setCell ⟨S, k, none⟩ v) := by
  refine ⟨h.but.setCell (Or.inl rfl) _, by have := h.size; simp; omega, h.lt, fun j hj => ?_, fun j => (World.frozen?_setCell _ _ _ _).trans (h.froz j)⟩
  have hc := h.cell k hk
  by_cases e : j = k
  · subst e; simp [go_sem, hc]
  · have := h.cell j hj
    simp [go_sem, e, this]
/-- Values lie behind an address. -/
def ValAt (w : World) (A : Option Addr) (n : Nat) (u : Nat → Value) : Prop := 0 < n → ∃ b off, A = some ⟨b, off, none⟩ ∧ b < w.heap.size ∧ ∀ i, i < n → w.cell? ⟨b, off + i, none⟩ = some (u i)
theorem ValAt.keep {w w' : World} {A : Option Addr} {n : Nat} {u : Nat → Value} (h : ValAt w A n u) (g : Gr w w') : ValAt w' A n u := by
  intro hn
  obtain ⟨b, off, e, hb, hc⟩ := h hn
  exact ⟨b, off, e, Nat.lt_of_lt_of_le hb g.le, fun i hi => (Below.cell (p := ⟨b, off + i, none⟩) g hb).trans (hc i hi)⟩
/-- Row k of a matrix. -/
def rowV (f : Nat → Nat → Int) (k : Nat) : V6 := ⟨f k 0, f k 1, f k 2, f k 3, f k 4, f k 5⟩
/-- What drift.walk returns. -/
def DwR (L : Nat) (E : Int) (g : Nat → Nat → Int) (w : World) (e : Ending) (w' : World) : Prop := ∃ (A : Option Addr) (c : Nat), e = .returned (.tuple #[.slice A L c, .int .i64 E]) ∧ ValAt w' A L (fun i => shV (rowV g i)) ∧ Gr w w'
theorem walkE_cases (nm : Nat → ByteArray) (f : Nat → Nat → Int) (n : Nat) (t : Nat → Nat → Int) (m : Nat) : (walkE nm f n t m = 0 ∧ walkN nm f n t m = m + 1 ∧ walkOk nm f n t m = true ∧ rangeB f t m = true) ∨ ((walkE nm f n t m = 1 ∨ walkE nm f n t m = 3) ∧ walkN nm f n t m = 0) := by
  unfold walkN walkE
  cases walkOk nm f n t m <;> cases rangeB f t m <;> simp
set_option maxRecDepth 100000 in
set_option maxHeartbeats 16000000 in
theorem dwalk_any (A B : Option Addr) (n c m d : Nat) (nm : Nat → ByteArray) (f t : Nat → Nat → Int) (w : World) (hA : NamedAt w A n nm f) (hB : RowsAt w 4 B m t) (hP : Primes w) :
    Calls Tryz.prog 20 #[.slice A n c, .slice B m d] w (DwR (walkN nm f n t m) (walkE nm f n t m) (shP f t) w) := by
  have hW := walk_any A B n c m d nm f t w hA hB
  rcases walkE_cases nm f n t m with ⟨e1, e2, e3, e4⟩ | ⟨e1, e2⟩
  · rw [e1, e2] at hW ⊢
    have hm15 : m ≤ 15 := by
      simp only [walkOk, Bool.and_eq_true, decide_eq_true_eq] at e3
      exact e3.2.1
    have HW := Lib.hid hW
    have HKD := Lib.hid (fun i (hi : i < m + 1) W (g : Gr w W) => kind_any (shP f t i 0) (shP f t i 1) (shP f t i 2) (shP f t i 3) (shP f t i 4) (shP f t i 5) W (hP.keep g) (rangeB_at e4 (by omega)))
    obtain ⟨i0, hin, hz0, hz1, hz2⟩ := info_parts (show (Tryz.prog.info? 46).map (fun i => (i.zero, i.size, i.bytes)) = some (some .nilIface, 1, 16) by kernel_rfl)
    have HINF := Lib.hid (And.intro hin (And.intro hz0 (And.intro hz1 hz2)))
    clear hin hz0 hz1 hz2 hW hA hB hP e1 e2 e3 e4
    generalize shP f t = g at *
    obtain ⟨L, hL⟩ : ∃ L, L = m + 1 := ⟨_, rfl⟩
    rw [← hL] at HW HKD ⊢
    have hL16 : L ≤ 16 := by omega
    clear hL
    go_enter Tryz.func20, Tryz.ntmps20
    go_wp2_with fail
    go_at_call 29
    refine HW.out.mono ?_
    rintro e w1 ⟨A1, c1, rfl, hr1, hg1⟩
    have HG1 := Lib.hid hg1; have HR1 := Lib.hid hr1
    clear hg1 hr1 HW
    go_wp2_with (at_make; refine wpList_make_full _ rfl _ _ 42 rfl w1.heap.size 46 i0 .nilIface 1 Tryz.underlying42 HINF.out.1 HINF.out.2.1 HINF.out.2.2.1 _ _ _ _ L rfl rfl (by simp) (by simp) (by rw [HINF.out.2.2.2]; omega) (by unfold maxLen; omega) (Nat.le_refl _) ?_; intro W2 hown hgrow)
    have hg2 : Gr w1 W2 := gr_of_grown hgrow
    have hA0 : VArr L (fun i => if i < 0 then shV (rowV g i) else .nilIface) w1.heap.size W2.heap.size W2 W2 := ⟨But.refl _ _ _, Nat.le_refl _, (hown.lt _ rfl).2, fun j hj => by
      rw [hown.cellAt j (by omega), show (Value.nilIface).cells = #[.nilIface] from rfl, toList_madeCells_one, List.getElem?_replicate, if_pos (by omega)]; rfl, fun j => hown.frozenAt j⟩
    have HA0 := Lib.hid hA0
    have HG2 := Lib.hid (HG1.out.trans hg2)
    have HR2 := Lib.hid (HR1.out.keep hg2)
    have hlb : w.heap.size ≤ w1.heap.size := HG1.out.le
    have hlt2 := hA0.lt
    have HRB : Hid (0 < L → ∀ b off, A1 = some ⟨b, off, none⟩ → b < w1.heap.size) := Lib.hid (fun h0 b off e => by
      obtain ⟨b', off', e', hb', -⟩ := HR1.out h0
      rw [e] at e'; cases e'; exact hb')
    clear hown hgrow hg2 hA0
    generalize hLB : w1.heap.size = LB at *
    clear hLB HG1 HR1
    go_wp2_with fail
    go_loopw [25] (fun iv wr => ∃ k : Nat, k ≤ L ∧ iv = .int .i64 (k : Int) ∧ VArr L (fun i => if i < k then shV (rowV g i) else .nilIface) LB W2.heap.size W2 wr) (fun iv _ => L - (intOf iv).toNat)
    case atStart => exact ⟨0, Nat.zero_le _, rfl, HA0.out⟩
    case round =>
      obtain ⟨k, hk, rfl, hR⟩ := hrel
      have HR := Lib.hid hR
      have HGR := Lib.hid (HG2.out.but hR.but hlb HG2.out.le)
      have hsz := hR.size
      have hbut := Lib.hid hR.but
      clear hR HA0
      obtain ⟨wo, rfl⟩ : ∃ wo : World, wo = wr := ⟨_, rfl⟩
      by_cases hlt : k < L
      · have hlt' : decide ((k : Int) < (L : Int)) = true := decide_eq_true (by omega)
        obtain ⟨b, off, rfl, hbl, c0, c1', c2, c3, c4, c5⟩ := HR2.out.six hlt
        have hb3 := HRB.out (by omega) b off rfl
        have kk : ∀ o, wo.cell? ⟨b, o, none⟩ = W2.cell? ⟨b, o, none⟩ := fun o => hbut.out.cell (p := ⟨b, o, none⟩) hbl (by show b ≠ LB; omega)
        rw [← kk] at c0 c1' c2 c3 c4 c5
        have hbl2 : b < wo.heap.size := by omega
        have hKD := HKD.out k hlt
        have HSV : Hid (shV (rowV g k) = shV ⟨g k 0, g k 1, g k 2, g k 3, g k 4, g k 5⟩) := Lib.hid rfl
        obtain ⟨IT, IX, hif⟩ := shV_iface ⟨g k 0, g k 1, g k 2, g k 3, g k 4, g k 5⟩
        have HKD2 := Lib.hid hKD
        clear kk hKD
        rw [hif] at HKD2 HSV
        clear hif
        go_wp2_with fail
        go_at_call 30
        refine (HKD2.out _ (HGR.out.trans (by repeat (first | with_reducible exact Gr.refl _ | with_reducible refine Gr.alloc ?_ _ | with_reducible refine Gr.drew ?_ | with_reducible refine Gr.trans ?_ (by assumption) | with_reducible refine Gr.setCell ?_ (by (try simp); (try omega)) _)))).mono ?_
        rintro e w4 ⟨rfl, hb4⟩
        have hg4 : Gr wo w4 := Gr.trans (by repeat (first | with_reducible exact Gr.refl _ | with_reducible refine Gr.alloc ?_ _ | with_reducible refine Gr.drew ?_ | with_reducible refine Gr.trans ?_ (by assumption) | with_reducible refine Gr.setCell ?_ (by (try simp); (try omega)) _)) hb4
        have HR4 := Lib.hid (HR.out.gr hg4)
        have u4 := HR4.out.cell k hlt
        have f4 := HR4.out.froz k
        have hsz4 := HR4.out.size
        have HST := Lib.hid (HR4.out.store hlt (.iface IT IX))
        clear hb4 hg4 c0 c1' c2 c3 c4 c5 HR
        rw [if_neg (by omega)] at u4
        go_wp2_with fail
        go_roundw
        case rel =>
          refine ⟨k + 1, by omega, by go_num, HST.out.congr fun j hj => ?_⟩
          by_cases e : j = k
          · rw [if_pos e, e, if_pos (by omega), HSV.out]
          · rw [if_neg e]
            by_cases e2 : j < k
            · rw [if_pos e2, if_pos (by omega)]
            · rw [if_neg e2, if_neg (by omega)]
        case measure => simp [intOf]; omega
      · obtain rfl : L = k := by omega
        have hlt' : decide ((L : Int) < (L : Int)) = false := decide_eq_false (by omega)
        go_wp2_with fail
        go_ret2
        exact ⟨_, _, rfl, fun _ => ⟨LB, 0, rfl, by have := HR.out.lt; omega, fun i hi => by rw [Nat.zero_add]; have z := HR.out.cell i hi; rwa [if_pos hi] at z⟩, HGR.out⟩
  · rw [e2] at hW ⊢
    have HW := Lib.hid hW
    clear hW hA hB hP
    generalize walkE nm f n t m = E at *
    have hE : (E != 0) = true := by rcases e1 with rfl | rfl <;> rfl
    clear e1 e2
    go_enter Tryz.func20, Tryz.ntmps20
    go_wp2_with fail
    go_at_call 29
    refine HW.out.mono ?_
    rintro e w1 ⟨A1, c1, rfl, -, hg1⟩
    go_wp2_with fail
    go_ret2
    exact ⟨none, 0, rfl, fun h => by omega, hg1⟩
end Go.Proofs.YtelhmdhhabgihaaGreatDoor
