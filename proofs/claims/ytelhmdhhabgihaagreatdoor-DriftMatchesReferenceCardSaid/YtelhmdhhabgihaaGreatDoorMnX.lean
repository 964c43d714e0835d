/-
  Determinants by expansion along the first row (plain words), and what memory holds of lists of numbers and flags.
  matrix.minor.
-/
import Derived.Test.YtelhmdhhabgihaaGreatDoorRowsAt
import Derived.Test.YtelhmdhhabgihaaGreatDoorHeld
import Derived.Test.YtelhmdhhabgihaaGreatDoorRowW
import Derived.OwnWalk
import Derived.BigQuiet
import Derived.Deep.QuietTactic
import Derived.IntWalk
import Derived.Laws.EntriesVeiled
namespace Go.Proofs.YtelhmdhhabgihaaGreatDoor
open Go.RowKit

theorem btf (b : Bool) : b = true ∨ b = false := by cases b <;> simp
/-- Flag k is set. -/
def updB (U : Nat → Bool) (k : Nat) (b : Bool) : Nat → Bool := fun j => if j = k then b else U j
theorem updB_back {U : Nat → Bool} {k : Nat} (h : U k = false) : updB (updB U k true) k false = U := by
  funext j
  unfold updB
  by_cases e : j = k
  · subst e; simp [h]
  · simp [e]
/-- The sum over the first k columns that are not used, and the sign of the next one. -/
def dsum (x : Nat → Int) (D : (Nat → Bool) → Int) (U : Nat → Bool) : Nat → Int × Int
  | 0 => (0, 1)
  | k + 1 => if U k then dsum x D U k else ((dsum x D U k).1 + (dsum x D U k).2 * x k * D (updB U k true), -(dsum x D U k).2)
/-- The determinant of rows and of the columns that are not used. -/
def detW (f : Nat → Nat → Int) (js : List Nat) : List Nat → (Nat → Bool) → Int
  | [], _ => 1
  | i :: is, U => (dsum (fun k => f i (js.getD k 0)) (detW f js is) U js.length).1
theorem dsum_used {x : Nat → Int} {D : (Nat → Bool) → Int} {U : Nat → Bool} {k : Nat} (h : U k = true) : dsum x D U (k + 1) = dsum x D U k := by rw [dsum, if_pos h]
theorem dsum_free {x : Nat → Int} {D : (Nat → Bool) → Int} {U : Nat → Bool} {k : Nat} (h : U k = false) : dsum x D U (k + 1) = ((dsum x D U k).1 + (dsum x D U k).2 * x k * D (updB U k true), -(dsum x D U k).2) := by rw [dsum, if_neg (by simp [h])]
theorem dsum_sign (x : Nat → Int) (D : (Nat → Bool) → Int) (U : Nat → Bool) (k : Nat) : (dsum x D U k).2 = 1 ∨ (dsum x D U k).2 = -1 := by
  induction k with
  | zero => exact .inl rfl
  | succ k ih =>
    cases h : U k with
    | true => rw [dsum_used h]; exact ih
    | false => rw [dsum_free h]; simp only; omega
theorem mul48_bd {x d B : Int} (h1 : -48 ≤ x) (h2 : x ≤ 48) (h3 : -B ≤ d) (h4 : d ≤ B) (hB : 0 ≤ B) : -(48 * B) ≤ x * d ∧ x * d ≤ 48 * B := by
  have a : (x * d).natAbs = x.natAbs * d.natAbs := Int.natAbs_mul x d
  have b : x.natAbs * d.natAbs ≤ 48 * B.toNat := Nat.mul_le_mul (by omega) (by omega)
  omega
theorem term48_bd {s x d B : Int} (hs : s = 1 ∨ s = -1) (h1 : -48 ≤ x) (h2 : x ≤ 48) (h3 : -B ≤ d) (h4 : d ≤ B) (hB : 0 ≤ B) : -(48 * B) ≤ s * x * d ∧ s * x * d ≤ 48 * B := by
  rcases hs with rfl | rfl
  · rw [Int.one_mul]; exact mul48_bd h1 h2 h3 h4 hB
  · rw [Int.neg_one_mul]; exact mul48_bd (by omega) (by omega) h3 h4 hB
theorem dsum_bd {x : Nat → Int} {D : (Nat → Bool) → Int} {B : Int} {n : Nat} (hB : 0 ≤ B) (hx : ∀ k, k < n → -48 ≤ x k ∧ x k ≤ 48) (hD : ∀ U, -B ≤ D U ∧ D U ≤ B) (U : Nat → Bool) : ∀ k, k ≤ n → -((k : Int) * (48 * B)) ≤ (dsum x D U k).1 ∧ (dsum x D U k).1 ≤ (k : Int) * (48 * B) := by
  intro k
  induction k with
  | zero => intro _; simp [dsum]
  | succ k ih =>
    intro hk
    have i := ih (by omega)
    have e : ((k + 1 : Nat) : Int) * (48 * B) = (k : Int) * (48 * B) + 48 * B := by rw [Int.natCast_add, Int.add_mul]; simp
    rw [e]
    cases h : U k with
    | true => rw [dsum_used h]; omega
    | false =>
      rw [dsum_free h]
      have t := term48_bd (dsum_sign x D U k) (hx k (by omega)).1 (hx k (by omega)).2 (hD (updB U k true)).1 (hD (updB U k true)).2 hB
      simp only
      omega
theorem detW_bd {f : Nat → Nat → Int} {js : List Nat} (hm : js.length ≤ 6) : ∀ (is : List Nat), (∀ i ∈ is, ∀ j, j < 6 → -48 ≤ f i j ∧ f i j ≤ 48) → (∀ j ∈ js, j < 6) → ∀ U, -(288 ^ is.length : Int) ≤ detW f js is U ∧ detW f js is U ≤ 288 ^ is.length
  | [], _, _, U => by simp [detW]
  | i :: is, hf, hj, U => by
    have ih := detW_bd hm is (fun k hk => hf k (by simp [hk])) hj
    have hp : (0 : Int) ≤ 288 ^ is.length := Int.le_of_lt (Int.pow_pos (by omega))
    have hx : ∀ k, k < js.length → -48 ≤ (fun k => f i (js.getD k 0)) k ∧ (fun k => f i (js.getD k 0)) k ≤ 48 := fun k hk => by
      have hk' : js.getD k 0 ∈ js := by
        rw [List.getD_eq_getElem?_getD, List.getElem?_eq_getElem hk]
        exact List.getElem_mem hk
      exact hf i (by simp) _ (hj _ hk')
    have b := dsum_bd hp hx ih U js.length (Nat.le_refl _)
    have e : (288 ^ (i :: is).length : Int) = 288 ^ is.length * 288 := by rw [List.length_cons, Int.pow_succ]
    have c : ((js.length : Nat) : Int) * (48 * 288 ^ is.length) ≤ 6 * (48 * 288 ^ is.length) := Int.mul_le_mul_of_nonneg_right (by omega) (by omega)
    rw [e]
    show -(288 ^ is.length * 288 : Int) ≤ (dsum (fun k => f i (js.getD k 0)) (detW f js is) U js.length).1 ∧ _
    simp only [detW]
    omega
theorem pow_bd {n : Nat} (h : n ≤ 6) : (288 ^ n : Int) ≤ 570630428688384 := by
  rcases (by omega : n = 0 ∨ n = 1 ∨ n = 2 ∨ n = 3 ∨ n = 4 ∨ n = 5 ∨ n = 6) with rfl | rfl | rfl | rfl | rfl | rfl | rfl <;> decide
/-- A list of numbers lies behind an address. -/
def IntsL (w : World) (A : Option Addr) (l : List Nat) : Prop := 0 < l.length → ∃ b off, A = some ⟨b, off, none⟩ ∧ b < w.heap.size ∧ ∀ (k i : Nat), l[k]? = some i → w.cell? ⟨b, off + k, none⟩ = some (.int .i64 (i : Int))
theorem IntsL.keep {w w' : World} {A : Option Addr} {l : List Nat} (h : IntsL w A l) (g : Gr w w') : IntsL w' A l := by
  intro hn
  obtain ⟨b, off, e, hb, hc⟩ := h hn
  exact ⟨b, off, e, Nat.lt_of_lt_of_le hb g.le, fun k i hk => (Below.cell (p := ⟨b, off + k, none⟩) g hb).trans (hc k i hk)⟩
/-- Flags in block S, while all else below N is as it was in W1. -/
structure BArr (n : Nat) (U : Nat → Bool) (S N : Nat) (W1 wr : World) : Prop where
  but : But S N W1 wr
  size : N ≤ wr.heap.size
  lt : S < N
  cell : ∀ j, j < n → wr.cell? ⟨S, j, none⟩ = some (.bool (U j))
  froz : ∀ j, wr.frozen? ⟨S, j, none⟩ = false
theorem BArr.drew {n : Nat} {U : Nat → Bool} {S N : Nat} {W1 wr : World} (h : BArr n U S N W1 wr) : BArr n U S N W1 wr.drew := ⟨h.but.drew, h.size, h.lt, h.cell, h.froz⟩
theorem BArr.drewN {n : Nat} {U : Nat → Bool} {S N : Nat} {W1 wr : World} (h : BArr n U S N W1 wr) (k : Nat) : BArr n U S N W1 (wr.drewN k) := by
  induction k with
  | zero => exact h
  | succ k ih => exact ih.drew
theorem BArr.store {n : Nat} {U : Nat → Bool} {S N : Nat} {W1 wr : World} (h : BArr n U S N W1 wr) {k : Nat} (hk : k < n) (v : Bool) : BArr n (updB U k v) S N W1 (wr.setCell ⟨S, k, none⟩ (.bool v)) := by
  refine ⟨h.but.setCell (Or.inl rfl) _, by have := h.size; simp; omega, h.lt, fun j hj => ?_, fun j => (World.frozen?_setCell _ _ _ _).trans (h.froz j)⟩
  have hc := h.cell k hk
  by_cases e : j = k
  · subst e; simp [go_sem, hc, updB]
  · have := h.cell j hj
    simp [go_sem, e, this, updB]
end Go.Proofs.YtelhmdhhabgihaaGreatDoor

namespace Go.Proofs.YtelhmdhhabgihaaGreatDoor
open Go.RowKit

set_option maxRecDepth 100000 in
set_option maxHeartbeats 16000000 in
theorem expand_any (IB JB UB RB XB ub : Nat) (Ai Aj Ar : Option Addr) (is js : List Nat) (ci cj nr cr : Nat) (f : Nat → Nat → Int) (w W1 : World) (gW : Gr w W1) (hub : w.heap.size ≤ ub)
    (hbI : IB < W1.heap.size ∧ IB ≠ ub) (hbJ : JB < W1.heap.size ∧ JB ≠ ub) (hbU : UB < W1.heap.size ∧ UB ≠ ub) (hbR : RB < W1.heap.size ∧ RB ≠ ub) (hbX : XB < W1.heap.size ∧ XB ≠ ub)
    (cI : W1.cell? ⟨IB, 0, none⟩ = some (.slice Ai is.length ci)) (cJ : W1.cell? ⟨JB, 0, none⟩ = some (.slice Aj js.length cj)) (cU : W1.cell? ⟨UB, 0, none⟩ = some (.slice (some ⟨ub, 0, none⟩) js.length js.length)) (cR : W1.cell? ⟨RB, 0, none⟩ = some (.slice Ar nr cr))
    (cX : W1.cell? ⟨XB, 0, none⟩ = some (.func (.func 112) #[] #[.pointer (some ⟨IB, 0, none⟩), .pointer (some ⟨JB, 0, none⟩), .pointer (some ⟨UB, 0, none⟩), .pointer (some ⟨RB, 0, none⟩), .pointer (some ⟨XB, 0, none⟩)]))
    (hI : IntsL w Ai is) (hJ : IntsL w Aj js) (hR : RowsAt w 6 Ar nr f) (hi : ∀ i ∈ is, i < nr) (hj : ∀ j ∈ js, j < 6) (hf : ∀ i, i < nr → ∀ j, j < 6 → -48 ≤ f i j ∧ f i j ≤ 48) (hil : is.length ≤ 6) (hjl : js.length ≤ 6) :
    ∀ (rest pre : List Nat) (U : Nat → Bool) (W : World), is = pre ++ rest → BArr js.length U ub W1.heap.size W1 W →
    Calls Tryz.prog 112 #[.int .i64 (pre.length : Int), .pointer (some ⟨IB, 0, none⟩), .pointer (some ⟨JB, 0, none⟩), .pointer (some ⟨UB, 0, none⟩), .pointer (some ⟨RB, 0, none⟩), .pointer (some ⟨XB, 0, none⟩)] W fun e w' => e = .returned (.int .i64 (detW f js rest U)) ∧ BArr js.length U ub W1.heap.size W1 w' := by
  have HIS := Lib.hid hI; have HJS := Lib.hid hJ; have HRS := Lib.hid hR; have HI := Lib.hid hi; have HJ := Lib.hid hj; have HFB := Lib.hid hf; have HGW := Lib.hid gW
  have HCI := Lib.hid cI; have HCJ := Lib.hid cJ; have HCU := Lib.hid cU; have HCR := Lib.hid cR; have HCX := Lib.hid cX
  have hNw := gW.le
  clear hI hJ hR hi hj hf gW cI cJ cU cR cX
  intro rest
  induction rest with
  | nil =>
    intro pre U W he hB
    have HB := Lib.hid hB
    have hl : is.length = pre.length := by rw [he, List.append_nil]
    have oI := (hB.but.cell (p := ⟨IB, 0, none⟩) hbI.1 hbI.2).trans HCI.out
    have lI : IB < W.heap.size := by have := hB.size; omega
    have hq : ((pre.length : Int) == (is.length : Int)) = true := by rw [hl]; simp
    have hq2 : (pre.length == is.length) = true := by rw [hl]; simp
    have HL := Lib.hid hl
    clear hl hB he
    simp only [detW]
    go_enter Tryz.func112, Tryz.ntmps112
    go_wp2_with fail
    go_ret
    exact ⟨rfl, HB.out⟩
  | cons r rs ih =>
    intro pre U W he hB
    have HIH := Lib.hid ih; have HE := Lib.hid he; have HB := Lib.hid hB
    have hlp : pre.length < is.length := by rw [he, List.length_append]; simp
    have hrs : rs.length ≤ 5 := by rw [he, List.length_append] at hil; simp at hil; omega
    have hri : r < nr := HI.out r (by rw [he]; simp)
    have hra : is[pre.length]? = some r := by rw [he]; simp
    have HRA := Lib.hid hra
    have oI := (hB.but.cell (p := ⟨IB, 0, none⟩) hbI.1 hbI.2).trans HCI.out
    have oJ := (hB.but.cell (p := ⟨JB, 0, none⟩) hbJ.1 hbJ.2).trans HCJ.out
    have lI : IB < W.heap.size := by have := hB.size; omega
    have lJ : JB < W.heap.size := by have := hB.size; omega
    have hq : ((pre.length : Int) == (is.length : Int)) = false := by simp; omega
    have hq2 : (pre.length == is.length) = false := by simp; omega
    have hB0 : (0 : Int) ≤ 288 ^ rs.length := Int.le_of_lt (Int.pow_pos (by omega))
    have hB1 : (288 ^ rs.length : Int) ≤ 570630428688384 := pow_bd (by omega)
    have hD := detW_bd hjl rs (fun i hi' => HFB.out i (HI.out i (by rw [he]; simp [hi']))) HJ.out
    have hx : ∀ k, k < js.length → js.getD k 0 < 6 ∧ -48 ≤ f r (js.getD k 0) ∧ f r (js.getD k 0) ≤ 48 := fun k hk => by
      have hk' : js.getD k 0 ∈ js := by
        rw [List.getD_eq_getElem?_getD, List.getElem?_eq_getElem hk]
        exact List.getElem_mem hk
      exact ⟨HJ.out _ hk', HFB.out r hri _ (HJ.out _ hk')⟩
    have hS := fun k hk => dsum_bd (x := fun k => f r (js.getD k 0)) (n := js.length) hB0 (fun k hk => (hx k hk).2) hD U k hk
    have HSG := Lib.hid (fun k => dsum_sign (fun k => f r (js.getD k 0)) (detW f js rs) U k)
    have HS := Lib.hid hS; have HX := Lib.hid hx; have HD := Lib.hid hD
    have HDU := Lib.hid (fun k (h : U k = true) => dsum_used (x := fun k => f r (js.getD k 0)) (D := detW f js rs) h)
    have HDF := Lib.hid (fun k (h : U k = false) => dsum_free (x := fun k => f r (js.getD k 0)) (D := detW f js rs) h)
    clear hra hB he ih hS hx hD
    simp only [detW]
    obtain ⟨DS, hds⟩ : ∃ DS, DS = dsum (fun k => f r (js.getD k 0)) (detW f js rs) U := ⟨_, rfl⟩
    rw [← hds] at HS HSG HDU HDF ⊢
    have HD0 : Hid (DS 0 = (0, 1)) := Lib.hid (by rw [hds]; rfl)
    obtain ⟨DET, hdet⟩ : ∃ DET, DET = detW f js rs := ⟨_, rfl⟩
    rw [← hdet] at HD HDF HIH
    clear hds hdet
    generalize (288 ^ rs.length : Int) = BB at *
    go_enter Tryz.func112, Tryz.ntmps112
    go_wp2_with fail
    clear oI oJ lI lJ
    go_loopw [8, 9, 19] (fun sv gv iv wr => ∃ k : Nat, k ≤ js.length ∧ sv = .int .i64 (DS k).1 ∧ gv = .int .i64 (DS k).2 ∧ iv = .int .i64 (k : Int) ∧ BArr js.length U ub W1.heap.size W1 wr) (fun _ _ iv _ => js.length - (intOf iv).toNat)
    case atStart => exact ⟨0, Nat.zero_le _, by rw [HD0.out], by rw [HD0.out], rfl, HB.out⟩
    case round =>
      obtain ⟨k, hk, rfl, rfl, rfl, hR⟩ := hrel
      have HR := Lib.hid hR
      have hsz := hR.size
      have hgr : Gr w wr := HGW.out.but hR.but hub hNw
      have oI := (hR.but.cell (p := ⟨IB, 0, none⟩) hbI.1 hbI.2).trans HCI.out
      have oU := (hR.but.cell (p := ⟨UB, 0, none⟩) hbU.1 hbU.2).trans HCU.out
      have oR := (hR.but.cell (p := ⟨RB, 0, none⟩) hbR.1 hbR.2).trans HCR.out
      have oX := (hR.but.cell (p := ⟨XB, 0, none⟩) hbX.1 hbX.2).trans HCX.out
      have uc := hR.cell k
      have uf := hR.froz k
      obtain ⟨wo, rfl⟩ : ∃ wo : World, wo = wr := ⟨_, rfl⟩
      clear hR
      by_cases hlt : k < js.length
      · have hlt' : decide ((k : Int) < (js.length : Int)) = true := decide_eq_true (by omega)
        obtain ⟨b, off, rfl, hbl, hcj⟩ := (HJS.out.keep hgr) (by omega)
        have c0 := hcj k (js.getD k 0) (by rw [List.getD_eq_getElem?_getD, List.getElem?_eq_getElem hlt]; rfl)
        obtain ⟨x1, x2, x3⟩ := HX.out k hlt
        have hs := HS.out k hk
        have hsg := HSG.out k
        replace uc := uc hlt
        have hu1 := HDU.out k; have hu2 := HDF.out k
        clear hcj
        generalize js.getD k 0 = jj at *
        rcases btf (U k) with hu | hu
        · have HN := Lib.hid (hu1 hu)
          rw [hu] at uc
          clear hu hu1 hu2
          go_wp2_with fail
          go_roundw
          case rel => exact ⟨k + 1, by omega, by rw [HN.out], by rw [HN.out], by go_num, HR.out⟩
          case measure => simp [intOf]; omega
        · have HN := Lib.hid (hu2 hu)
          have HBK := Lib.hid (updB_back hu)
          rw [hu] at uc
          obtain ⟨bi, offi, rfl, hbli, hci⟩ := (HIS.out.keep hgr) (by omega)
          have c1 := hci pre.length r HRA.out
          obtain ⟨br, offr, rfl, hblr, hcr⟩ := (HRS.out.keep hgr).at_ hri
          have c2 := hcr jj x1
          have hp0 : (0 : Int) ≤ (pre.length : Int) := by omega
          have hp1 : (pre.length : Int) < (is.length : Int) := by omega
          have hr0 : (0 : Int) ≤ (r : Int) := by omega
          have hr1 : (r : Int) < (nr : Int) := by omega
          have hj0 : (0 : Int) ≤ (jj : Int) := by omega
          have hj1 : (jj : Int) < 6 := by omega
          clear hu hu1 hu2 hci hcr
          by_cases hx0 : f r jj = 0
          · rw [hx0] at c2 HN
            have HN2 : Hid (DS (k + 1) = ((DS k).1, -(DS k).2)) := Lib.hid (by rw [HN.out]; simp)
            have hw1 : IntKind.i64.wrap (-(DS k).2) = -(DS k).2 := IntWalk.i64_in _ ⟨by omega, by omega⟩
            go_wp2_with fail
            go_quiet (fail)
            go_wp2_with fail
            go_roundw
            case rel => exact ⟨k + 1, by omega, by rw [HN2.out], by rw [HN2.out], by go_num, HR.out.drewN _⟩
            case measure => simp [intOf]; omega
          · have hxb : (f r jj == 0) = false := by simpa using hx0
            have hxb2 : (f r jj != 0) = true := by simpa using hx0
            have hw1 : IntKind.i64.wrap (-(DS k).2) = -(DS k).2 := IntWalk.i64_in _ ⟨by omega, by omega⟩
            generalize f r jj = x at *
            go_wp2_with fail
            go_quiet (fail)
            go_upto_region 11 with fail
            generalize hW : (wo.drewN _).setCell ⟨ub, k, none⟩ (.bool true) = wq
            have hB1 : BArr js.length (updB U k true) ub W1.heap.size W1 wq := by rw [← hW]; exact (HR.out.drewN _).store hlt true
            have oX2 := (hB1.but.cell (p := ⟨XB, 0, none⟩) hbX.1 hbX.2).trans HCX.out
            have hsz2 := hB1.size
            have hC := HIH.out (pre ++ [r]) (updB U k true) wq (by rw [HE.out]; simp) hB1
            rw [show (((pre ++ [r]).length : Nat) : Int) = (pre.length : Int) + 1 by simp] at hC
            obtain ⟨d0, d1⟩ := HD.out (updB U k true)
            obtain ⟨t0, t1⟩ := term48_bd hsg x2 x3 d0 d1 hB0
            have hsx : -48 ≤ (DS k).2 * x ∧ (DS k).2 * x ≤ 48 := by
              rcases hsg with e | e <;> rw [e] <;> omega
            have hw5 : IntKind.i64.wrap ((pre.length : Int) + 1) = (pre.length : Int) + 1 := IntWalk.i64_in _ ⟨by omega, by omega⟩
            have hkb : (k : Int) * (48 * BB) ≤ 6 * (48 * BB) := Int.mul_le_mul_of_nonneg_right (by omega) (by omega)
            generalize DET (updB U k true) = d at *
            have hw2 : IntKind.i64.wrap ((DS k).2 * x) = (DS k).2 * x := IntWalk.i64_in _ ⟨by omega, by omega⟩
            have hw3 : IntKind.i64.wrap ((DS k).2 * x * d) = (DS k).2 * x * d := IntWalk.i64_in _ ⟨by omega, by omega⟩
            have hw4 : IntKind.i64.wrap ((DS k).1 + (DS k).2 * x * d) = (DS k).1 + (DS k).2 * x * d := IntWalk.i64_in _ ⟨by omega, by omega⟩
            have hv2 : wrap64 ((DS k).2 * x) = (DS k).2 * x := (IntWalk.i64_left _).symm.trans hw2
            have hv3 : wrap64 ((DS k).2 * x * d) = (DS k).2 * x * d := (IntWalk.i64_left _).symm.trans hw3
            have hv4 : wrap64 ((DS k).1 + (DS k).2 * x * d) = (DS k).1 + (DS k).2 * x * d := (IntWalk.i64_left _).symm.trans hw4
            have HC := Lib.hid hC
            have HDK := Lib.hid hsg
            clear hW hC oI oU oR oX uc uf c0 c1 c2 t0 t1 d0 d1 hkb hs hsg HR
            go_wp2_with fail
            go_at_call 112
            refine HC.out.mono ?_
            rintro e w' ⟨rfl, hB2⟩
            have HB2 := Lib.hid hB2
            have oU := (hB2.but.cell (p := ⟨UB, 0, none⟩) hbU.1 hbU.2).trans HCU.out
            have uc := hB2.cell k hlt
            rw [show updB U k true k = true by simp [updB]] at uc
            have uf := hB2.froz k
            have hsz3 := hB2.size
            have hst := hB2.store hlt false
            rw [HBK.out] at hst
            have HST := Lib.hid hst
            clear hB2 hst oX2 hB1
            obtain ⟨w4, rfl⟩ : ∃ w4 : World, w4 = w' := ⟨_, rfl⟩
            go_wp2_with fail
            go_roundw
            case rel => exact ⟨k + 1, by omega, by rw [HN.out], by rw [HN.out], by go_num, HST.out⟩
            case measure => simp [intOf]; omega
      · obtain rfl : k = js.length := by omega
        have hlt' : decide ((js.length : Int) < (js.length : Int)) = false := decide_eq_false (by omega)
        go_wp2_with fail
        go_ret
        exact ⟨rfl, HR.out⟩
set_option maxRecDepth 100000 in
set_option maxHeartbeats 16000000 in
theorem minor_any (Ai Aj Ar : Option Addr) (is js : List Nat) (ci cj nr cr : Nat) (f : Nat → Nat → Int) (w : World) (hI : IntsL w Ai is) (hJ : IntsL w Aj js) (hR : RowsAt w 6 Ar nr f) (hi : ∀ i ∈ is, i < nr) (hj : ∀ j ∈ js, j < 6) (hf : ∀ i, i < nr → ∀ j, j < 6 → -48 ≤ f i j ∧ f i j ≤ 48) (hil : is.length ≤ 6) (hjl : js.length ≤ 6) :
    Calls Tryz.prog 105 #[.slice Ar nr cr, .slice Ai is.length ci, .slice Aj js.length cj] w fun e w' => e = .returned (.int .i64 (detW f js is fun _ => false)) ∧ Gr w w' := by
  obtain ⟨i0, hin, hz0, hz1, hz2⟩ := info_parts (show (Tryz.prog.info? 4).map (fun i => (i.zero, i.size, i.bytes)) = some (some (.bool false), 1, 1) by kernel_rfl)
  have HI := Lib.hid hI; have HJ := Lib.hid hJ; have HR := Lib.hid hR
  have HF := Lib.hid (And.intro hi (And.intro hj hf))
  have HINF := Lib.hid (And.intro hin (And.intro hz0 (And.intro hz1 hz2)))
  clear hI hJ hR hi hj hf hin hz0 hz1 hz2
  generalize hni : is.length = ni at *
  generalize hnj : js.length = nj at *
  have HNI := Lib.hid hni; have HNJ := Lib.hid hnj
  clear hni hnj
  go_enter Tryz.func105, Tryz.ntmps105
  go_wp2_with (at_make; refine wpList_make_full _ rfl _ _ 148 rfl w.heap.size 4 i0 (.bool false) 1 Tryz.underlying148 HINF.out.1 HINF.out.2.1 HINF.out.2.2.1 _ _ _ _ nj rfl rfl (by simp) (by simp) (by rw [HINF.out.2.2.2]; omega) (by unfold maxLen; omega) (by simp; omega) ?_; intro W1 hown hgrow; have hg1 := gr_of_grown hgrow; obtain ⟨hc1, hf1⟩ := hg1.cells; have hz1 := hg1.le; (try simp only [World.size_alloc] at hc1 hf1 hz1 hown))
  have hgW : Gr w W1 := (((Gr.refl w).alloc _).alloc _ |>.alloc _).trans hg1
  have k0 : W1.cell? ⟨w.heap.size, 0, none⟩ = some (.slice Ar nr cr) := (Below.cell (p := ⟨w.heap.size, 0, none⟩) hg1 (by simp; omega)).trans (by simp [go_sem])
  have k1 : W1.cell? ⟨w.heap.size + 1, 0, none⟩ = some (.slice Ai ni ci) := (Below.cell (p := ⟨w.heap.size + 1, 0, none⟩) hg1 (by simp)).trans (by simp [go_sem])
  have k2 : W1.cell? ⟨w.heap.size + 1 + 1, 0, none⟩ = some (.slice Aj nj cj) := (Below.cell (p := ⟨w.heap.size + 1 + 1, 0, none⟩) hg1 (by simp)).trans (by simp [go_sem])
  have hzw : w.heap.size + 1 + 1 + 1 ≤ W1.heap.size := by have := hg1.le; simpa using this
  have HOWN := Lib.hid hown; have HGW := Lib.hid hgW
  have v : ∀ W, W = (W1.alloc (.cells #[.slice (some ⟨w.heap.size + 1 + 1 + 1, 0, none⟩) nj nj] 148)).alloc (.cells #[.func (.func 112) #[] #[.pointer (some ⟨w.heap.size + 1, 0, none⟩), .pointer (some ⟨w.heap.size + 1 + 1, 0, none⟩), .pointer (some ⟨W1.heap.size, 0, none⟩), .pointer (some ⟨w.heap.size, 0, none⟩), .pointer (some ⟨W1.heap.size + 1, 0, none⟩)]] 78) → Gr W1 W ∧ W.heap.size = W1.heap.size + 1 + 1 ∧ 
      W.cell? ⟨w.heap.size + 1, 0, none⟩ = some (.slice Ai ni ci) ∧ W.cell? ⟨w.heap.size + 1 + 1, 0, none⟩ = some (.slice Aj nj cj) ∧ W.cell? ⟨W1.heap.size, 0, none⟩ = some (.slice (some ⟨w.heap.size + 1 + 1 + 1, 0, none⟩) nj nj) ∧ W.cell? ⟨w.heap.size, 0, none⟩ = some (.slice Ar nr cr) ∧ W.cell? ⟨W1.heap.size + 1, 0, none⟩ = some (.func (.func 112) #[] #[.pointer (some ⟨w.heap.size + 1, 0, none⟩), .pointer (some ⟨w.heap.size + 1 + 1, 0, none⟩), .pointer (some ⟨W1.heap.size, 0, none⟩), .pointer (some ⟨w.heap.size, 0, none⟩), .pointer (some ⟨W1.heap.size + 1, 0, none⟩)]) := by
    rintro W rfl
    have hG : Gr W1 ((W1.alloc (.cells #[.slice (some ⟨w.heap.size + 1 + 1 + 1, 0, none⟩) nj nj] 148)).alloc (.cells #[.func (.func 112) #[] #[.pointer (some ⟨w.heap.size + 1, 0, none⟩), .pointer (some ⟨w.heap.size + 1 + 1, 0, none⟩), .pointer (some ⟨W1.heap.size, 0, none⟩), .pointer (some ⟨w.heap.size, 0, none⟩), .pointer (some ⟨W1.heap.size + 1, 0, none⟩)]] 78)) := ((Gr.refl _).alloc _).alloc _
    exact ⟨hG, by simp, (Below.cell (p := ⟨w.heap.size + 1, 0, none⟩) hG (by simp; omega)).trans k1, (Below.cell (p := ⟨w.heap.size + 1 + 1, 0, none⟩) hG (by simp; omega)).trans k2, by simp [go_sem], (Below.cell (p := ⟨w.heap.size, 0, none⟩) hG (by simp; omega)).trans k0, by simp [go_sem]⟩
  clear hc1 hf1 hown hgrow hg1 k0 k1 k2
  go_wp2_with fail
  generalize hW : (W1.alloc (.cells #[.slice (some ⟨w.heap.size + 1 + 1 + 1, 0, none⟩) nj nj] 148)).alloc _ = W2
  obtain ⟨hg2, hz2', c1, c2, c3, c0, c4⟩ := v W2 hW.symm
  have hub : w.heap.size + 1 + 1 + 1 < W1.heap.size := (HOWN.out.lt _ rfl).2
  have hown2 := own_keep HOWN.out hg2
  have hgw2 := HGW.out.trans hg2
  obtain rfl := HNI.out
  obtain rfl := HNJ.out
  have hB : BArr js.length (fun _ => false) (w.heap.size + 1 + 1 + 1) W2.heap.size W2 W2 := ⟨But.refl _ _ _, Nat.le_refl _, by omega, fun j hj => by
    rw [hown2.cellAt j (by omega), show (Value.bool false).cells = #[.bool false] from rfl, toList_madeCells_one, List.getElem?_replicate, if_pos (by omega)], fun j => hown2.frozenAt j⟩
  have hE := expand_any (w.heap.size + 1) (w.heap.size + 1 + 1) W1.heap.size w.heap.size (W1.heap.size + 1) (w.heap.size + 1 + 1 + 1) Ai Aj Ar is js ci cj nr cr f w W2 hgw2 (by omega) ⟨by omega, by omega⟩ ⟨by omega, by omega⟩ ⟨by omega, by omega⟩ ⟨by omega, by omega⟩ ⟨by omega, by omega⟩ c1 c2 c3 c0 c4 HI.out HJ.out HR.out HF.out.1 HF.out.2.1 HF.out.2.2 hil hjl is [] (fun _ => false) W2 rfl hB
  rw [show ((([] : List Nat).length : Nat) : Int) = 0 from rfl] at hE
  have HE := Lib.hid hE
  clear hE hB c0 c1 c2 c3 c4 hown2
  refine HE.out.mono ?_
  rintro e w3 ⟨rfl, hB3⟩
  have hg3 : Gr w w3 := hgw2.but hB3.but (by omega) (by omega)
  have HG3 := Lib.hid hg3
  clear hB3 hg3
  go_wp2_with fail
  go_ret
  exact ⟨rfl, HG3.out⟩
end Go.Proofs.YtelhmdhhabgihaaGreatDoor
