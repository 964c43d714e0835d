/-
  drift.valid, Account and Times.
  drift.Times.
-/
import Derived.Test.YtelhmdhhabgihaaGreatDoorWkX
namespace Go.Proofs.YtelhmdhhabgihaaGreatDoor
open Go.RowKit

theorem walkE_ok (nm : Nat → ByteArray) (f : Nat → Nat → Int) (n : Nat) (t : Nat → Nat → Int) (m : Nat) : (walkE nm f n t m != 1) = walkOk nm f n t m := by
  unfold walkE
  cases walkOk nm f n t m <;> cases rangeB f t m <;> rfl
set_option maxRecDepth 100000 in
set_option maxHeartbeats 16000000 in
theorem dvalid_any (A B : Option Addr) (n c m d : Nat) (nm : Nat → ByteArray) (f t : Nat → Nat → Int) (w : World) (hA : NamedAt w A n nm f) (hB : RowsAt w 4 B m t) :
    Calls Tryz.prog 18 #[.slice A n c, .slice B m d] w fun e w' => e = .returned (.bool (walkOk nm f n t m)) ∧ Gr w w' := by
  have HW := Lib.hid (walk_any A B n c m d nm f t w hA hB)
  have HE := Lib.hid (walkE_ok nm f n t m)
  clear hA hB
  generalize walkE nm f n t m = E at *
  go_enter Tryz.func18, Tryz.ntmps18
  go_wp2_with fail
  go_at_call 29
  refine HW.out.mono ?_
  rintro e w1 ⟨A1, c1, rfl, -, hg1⟩
  have HG := Lib.hid hg1
  clear hg1
  go_wp2_with fail
  go_ret
  exact ⟨ret_bool HE.out, HG.out⟩
/-- Integers lie behind an address. -/
def IntAt (w : World) (A : Option Addr) (n : Nat) (u : Nat → Int) : Prop := 0 < n → ∃ b off, A = some ⟨b, off, none⟩ ∧ b < w.heap.size ∧ ∀ i, i < n → w.cell? ⟨b, off + i, none⟩ = some (.int .i64 (u i))
theorem IntAt.keep {w w' : World} {A : Option Addr} {n : Nat} {u : Nat → Int} (h : IntAt w A n u) (g : Gr w w') : IntAt w' A n u := by
  intro hn
  obtain ⟨b, off, e, hb, hc⟩ := h hn
  exact ⟨b, off, e, Nat.lt_of_lt_of_le hb g.le, fun i hi => (Below.cell (p := ⟨b, off + i, none⟩) g hb).trans (hc i hi)⟩
theorem IntAt.nil (w : World) (A : Option Addr) (u : Nat → Int) : IntAt w A 0 u := fun h => by omega
/-- How many of comma j the first k takes take. -/
def accP (t : Nat → Nat → Int) : Nat → Nat → Int
  | 0 => fun _ => 0
  | k + 1 => fun j => if (j : Int) = t k 1 then accP t k j + t k 2 else accP t k j
theorem accP_bd {n m : Nat} {t : Nat → Nat → Int} (h : takesB n t m = true) : ∀ k, k ≤ m → ∀ j, -(k : Int) ≤ accP t k j ∧ accP t k j ≤ (k : Int) := by
  intro k
  induction k with
  | zero => intro _ j; simp [accP]
  | succ k ih =>
    intro hk j
    have i := ih (by omega) j
    have p := takeB_parts (takesB_at h (show k < m by omega))
    rw [accP]
    show -((k + 1 : Nat) : Int) ≤ (if (j : Int) = t k 1 then accP t k j + t k 2 else accP t k j) ∧ (if (j : Int) = t k 1 then accP t k j + t k 2 else accP t k j) ≤ ((k + 1 : Nat) : Int)
    split <;> omega
/-- What Account returns. -/
def AccR (L : Nat) (E : Int) (u : Nat → Int) (w : World) (e : Ending) (w' : World) : Prop := ∃ (A : Option Addr) (c : Nat), e = .returned (.tuple #[.slice A L c, .int .i64 E]) ∧ IntAt w' A L u ∧ L ≤ c ∧ Gr w w'
set_option maxRecDepth 100000 in
set_option maxHeartbeats 16000000 in
theorem account_any (A B : Option Addr) (n c m d : Nat) (nm : Nat → ByteArray) (f t : Nat → Nat → Int) (w : World) (hA : NamedAt w A n nm f) (hB : RowsAt w 4 B m t) :
    Calls Tryz.prog 5 #[.slice A n c, .slice B m d] w (AccR (if walkOk nm f n t m then n else 0) (if walkOk nm f n t m then 0 else 1) (accP t m) w) := by
  have hV := dvalid_any A B n c m d nm f t w hA hB
  rcases btf (walkOk nm f n t m) with hok | hok
  · rw [hok] at hV
    rw [hok, if_pos rfl, if_pos rfl]
    have HV := Lib.hid hV; have HB := Lib.hid hB
    simp only [walkOk, Bool.and_eq_true, decide_eq_true_eq] at hok
    have hn6 := (commaB_parts hok.1).2.1
    have HBD := Lib.hid (fun k (hk : k ≤ m) => accP_bd hok.2.2 k hk)
    have HTK := Lib.hid (fun k (hk : k < m) => takeB_parts (takesB_at hok.2.2 hk))
    have hm15 := hok.2.1
    obtain ⟨i0, hin, hz0, hz1, hz2⟩ := info_parts infoInt
    have HINF := Lib.hid (And.intro hin (And.intro hz0 (And.intro hz1 hz2)))
    clear hin hz0 hz1 hz2 hV hA hB hok
    go_enter Tryz.func5, Tryz.ntmps5
    go_wp2_with fail
    go_at_call 18
    refine HV.out.mono ?_
    rintro e w1 ⟨rfl, hg1⟩
    have HG1 := Lib.hid hg1
    clear hg1
    go_wp2_with (at_make; refine wpList_make_full _ rfl _ _ 25 rfl w1.heap.size 3 i0 (.int .i64 0) 1 Tryz.underlying25 HINF.out.1 HINF.out.2.1 HINF.out.2.2.1 _ _ _ _ n rfl rfl (by simp) (by simp) (by rw [HINF.out.2.2.2]; omega) (by unfold maxLen; omega) (Nat.le_refl _) ?_; intro W2 hown hgrow)
    have hg2 : Gr w1 W2 := gr_of_grown hgrow
    have hA0 : ArrRel n (accP t 0) w1.heap.size W2.heap.size W2 W2 := ⟨But.refl _ _ _, Nat.le_refl _, (hown.lt _ rfl).2, fun j hj => by
      rw [hown.cellAt j (by omega), show (Value.int .i64 0).cells = #[.int .i64 0] from rfl, toList_madeCells_one, List.getElem?_replicate, if_pos (by omega)]; rfl, fun j => hown.frozenAt j⟩
    have HA0 := Lib.hid hA0
    have HG2 := Lib.hid (HG1.out.trans hg2)
    have hlb : w.heap.size ≤ w1.heap.size := HG1.out.le
    have hlt2 := hA0.lt
    clear hown hgrow hg2 hA0
    generalize hLB : w1.heap.size = LB at *
    clear hLB HG1
    go_wp2_with fail
    go_loopw [18] (fun iv wr => ∃ k : Nat, k ≤ m ∧ iv = .int .i64 (k : Int) ∧ ArrRel n (accP t k) LB W2.heap.size W2 wr) (fun iv _ => m - (intOf iv).toNat)
    case atStart => exact ⟨0, Nat.zero_le _, rfl, HA0.out⟩
    case round =>
      obtain ⟨k, hk, rfl, hR⟩ := hrel
      have HR := Lib.hid hR
      have hgr : Gr w wr := HG2.out.but hR.but hlb HG2.out.le
      have HGR := Lib.hid hgr
      have hsz := hR.size
      clear hR HA0 hgr
      obtain ⟨wo, rfl⟩ : ∃ wo : World, wo = wr := ⟨_, rfl⟩
      by_cases hlt : k < m
      · have hlt' : decide ((k : Int) < (m : Int)) = true := decide_eq_true (by omega)
        obtain ⟨b, off, rfl, hbl, hcc⟩ := (HB.out.keep HGR.out).at_ hlt
        have c0 := hcc 0 (by omega); have c1 := hcc 1 (by omega); have c2 := hcc 2 (by omega); have c3 := hcc 3 (by omega)
        simp only [Nat.add_zero] at c0
        obtain ⟨p1, p2, p3, p4, p5, p6⟩ := HTK.out k hlt
        obtain ⟨i, hi⟩ := Int.eq_ofNat_of_zero_le p2
        have hin : i < n := by omega
        have HAC : Hid (∀ j, accP t (k + 1) j = if j = i then accP t k i + t k 2 else accP t k j) := Lib.hid (fun j => by
          rw [accP, hi]
          by_cases e : j = i
          · subst e; simp
          · show (if (j : Int) = (i : Int) then accP t k j + t k 2 else accP t k j) = _
            rw [if_neg (by omega), if_neg e])
        rw [hi] at c1
        have hbi := HBD.out k hk i
        have hxx : -1 ≤ t k 2 ∧ t k 2 ≤ 1 := by omega
        have hi0 : (0 : Int) ≤ (i : Int) := by omega
        have hi1 : (i : Int) < (n : Int) := by omega
        clear hcc p1 p2 p3 p4 p5 p6 hi
        generalize t k 0 = t0 at *
        generalize t k 2 = x at *
        generalize t k 3 = t3 at *
        go_upto_region 7 with fail
        have hg1 : Gr wo (wo.alloc (.cells #[.int .i64 t0, .int .i64 (i : Int), .int .i64 x, .int .i64 t3] 40)) := (Gr.refl _).alloc _
        have a1 : (wo.alloc (.cells #[.int .i64 t0, .int .i64 (i : Int), .int .i64 x, .int .i64 t3] 40)).cell? ⟨wo.heap.size, 1, none⟩ = some (.int .i64 (i : Int)) := by simp [go_sem]
        have a2 : (wo.alloc (.cells #[.int .i64 t0, .int .i64 (i : Int), .int .i64 x, .int .i64 t3] 40)).cell? ⟨wo.heap.size, 2, none⟩ = some (.int .i64 x) := by simp [go_sem]
        have hsq : wo.heap.size < (wo.alloc (.cells #[.int .i64 t0, .int .i64 (i : Int), .int .i64 x, .int .i64 t3] 40)).heap.size := by simp
        have HRQ := Lib.hid (HR.out.gr hg1)
        have hx := HRQ.out.cell i hin
        have fx := HRQ.out.froz i
        clear c0 c1 c2 c3 hbl hg1 HR
        generalize wo.alloc (.cells #[.int .i64 t0, .int .i64 (i : Int), .int .i64 x, .int .i64 t3] 40) = wq at *
        have HST := Lib.hid (HRQ.out.store hin (accP t k i + x))
        have hsz2 := HRQ.out.size
        generalize accP t k i = y at *
        have hw1 : IntKind.i64.wrap (y + x) = y + x := IntWalk.i64_in _ ⟨by omega, by omega⟩
        have hv1 : wrap64 (y + x) = y + x := (IntWalk.i64_left _).symm.trans hw1
        generalize wo.heap.size = TB at *
        go_region
        all_goals
          go_wp2_with fail
          go_roundw
          case rel => exact ⟨k + 1, by omega, by go_num, (ArrRel.drew HST.out).congr (fun j hj => by rw [HAC.out j])⟩
          case measure => simp [intOf]; omega
      · obtain rfl : m = k := by omega
        have hlt' : decide ((m : Int) < (m : Int)) = false := decide_eq_false (by omega)
        go_wp2_with fail
        go_ret2
        exact ⟨_, _, rfl, fun _ => ⟨LB, 0, rfl, by have := HR.out.lt; omega, fun i hi => by rw [Nat.zero_add]; exact HR.out.cell i hi⟩, Nat.le_refl _, HGR.out⟩
  · rw [hok] at hV
    rw [hok, if_neg (by simp), if_neg (by simp)]
    have HV := Lib.hid hV
    clear hV hA hB hok
    go_enter Tryz.func5, Tryz.ntmps5
    go_wp2_with fail
    go_at_call 18
    refine HV.out.mono ?_
    rintro e w1 ⟨rfl, hg1⟩
    go_wp2_with fail
    go_ret2
    exact ⟨none, 0, rfl, IntAt.nil _ _ _, Nat.le_refl _, hg1⟩
end Go.Proofs.YtelhmdhhabgihaaGreatDoor

namespace Go.Proofs.YtelhmdhhabgihaaGreatDoor
open Go.RowKit

/-- The cells of the first n rows of four. -/
def row4C (g : Nat → Nat → Int) : Nat → List Value
  | 0 => []
  | n + 1 => row4C g n ++ [.int .i64 (g n 0), .int .i64 (g n 1), .int .i64 (g n 2), .int .i64 (g n 3)]
theorem row4C_len (g : Nat → Nat → Int) (n : Nat) : (row4C g n).length = n * 4 := by
  induction n with
  | zero => rfl
  | succ n ih => rw [row4C, List.length_append, ih]; simp; omega
theorem row4C_at (g : Nat → Nat → Int) (n : Nat) : ∀ i j, i < n → j < 4 → (row4C g n)[i * 4 + j]? = some (.int .i64 (g i j)) := by
  induction n with
  | zero => intro i j hi; omega
  | succ n ih =>
    intro i j hi hj
    rw [row4C]
    by_cases h : i < n
    · rw [List.getElem?_append_left (by rw [row4C_len]; omega)]
      exact ih i j h hj
    · obtain rfl : i = n := by omega
      rw [List.getElem?_append_right (by rw [row4C_len]; omega), row4C_len]
      obtain rfl | rfl | rfl | rfl : j = 0 ∨ j = 1 ∨ j = 2 ∨ j = 3 := by omega
      all_goals simp
theorem cell_four_new (w : World) (x0 x1 x2 x3 : Value) (t : TypeId) : ∀ j u, [x0, x1, x2, x3][j]? = some u → (w.alloc (.cells #[x0, x1, x2, x3] t)).cell? ((⟨w.heap.size, 0, none⟩ : Addr).add j) = some u := by
  intro j u hj
  have hlt := (List.getElem?_eq_some_iff.1 hj).1
  simp only [List.length_cons, List.length_nil] at hlt
  obtain rfl | rfl | rfl | rfl : j = 0 ∨ j = 1 ∨ j = 2 ∨ j = 3 := by omega
  all_goals
    simp at hj
    subst hj
    simp [go_sem, Addr.add]
theorem infoTake : (Tryz.prog.info? 40).map (fun i => (i.zero, i.size, i.bytes)) = some (some (.agg #[.int .i64 0, .int .i64 0, .int .i64 0, .int .i64 0]), 4, 32) := by kernel_rfl
theorem own_cap1 {W : World} {base : Nat} {e : TypeId} {sz n m c : Nat} {A : Option Addr} {xs : List Value} (h : W.ownsRow base e sz (.slice A m c) n xs) : n ≤ c := by
  rcases h.2 with ⟨h1, h2⟩ | ⟨g, cap, cur, h1, -, -, h2, -⟩
  · omega
  · cases h1; exact h2
/-- Takes, repeated. -/
def tmT (t : Nat → Nat → Int) (m : Nat) (i j : Nat) : Int := if j = 0 then (i : Int) + 1 else t (i % m) j
def timE (nm : Nat → ByteArray) (f : Nat → Nat → Int) (n : Nat) (t : Nat → Nat → Int) (m : Nat) (x : Int) : Int := if walkOk nm f n t m && decide (0 ≤ x ∧ x ≤ 15) then (if x * (m : Int) ≤ 15 then 0 else 2) else 1
def timN (nm : Nat → ByteArray) (f : Nat → Nat → Int) (n : Nat) (t : Nat → Nat → Int) (m : Nat) (x : Int) : Nat := if timE nm f n t m x = 0 then x.toNat * m else 0
/-- What Times returns. -/
def TimR (L : Nat) (E : Int) (g : Nat → Nat → Int) (w : World) (e : Ending) (w' : World) : Prop := ∃ (A : Option Addr) (c : Nat), e = .returned (.tuple #[.slice A L c, .int .i64 E]) ∧ RowsAt w' 4 A L g ∧ L ≤ c ∧ Gr w w'
theorem timR_none {E : Int} {g : Nat → Nat → Int} {w w' : World} {e : Ending} (h : e = .returned (.tuple #[.slice none 0 0, .int .i64 E]) ∧ Gr w w') : TimR 0 E g w e w' := ⟨none, 0, h.1, RowsAt.nil _ _ _ _, Nat.le_refl _, h.2⟩
set_option maxRecDepth 100000 in
set_option maxHeartbeats 16000000 in
theorem times_arg (A B : Option Addr) (n c m d : Nat) (nm : Nat → ByteArray) (f t : Nat → Nat → Int) (w : World) (hA : NamedAt w A n nm f) (hB : RowsAt w 4 B m t) (x : Int) (hbad : (walkOk nm f n t m && decide (0 ≤ x ∧ x ≤ 15)) = false) :
    Calls Tryz.prog 14 #[.slice A n c, .slice B m d, .int .i64 x] w fun e w' => e = .returned (.tuple #[.slice none 0 0, .int .i64 1]) ∧ Gr w w' := by
  have hV := dvalid_any A B n c m d nm f t w hA hB
  rcases btf (walkOk nm f n t m) with hok | hok
  · rw [hok] at hV
    rw [hok, Bool.true_and] at hbad
    have HV := Lib.hid hV
    have hx : ¬ (0 ≤ x ∧ x ≤ 15) := by simpa using hbad
    clear hV hA hB hok hbad
    by_cases h0 : x < 0
    · have d1 : decide (x < 0) = true := decide_eq_true h0
      clear hx
      go_enter Tryz.func14, Tryz.ntmps14
      go_wp2_with fail
      go_at_call 18
      refine HV.out.mono ?_
      rintro e w1 ⟨rfl, hg1⟩
      go_wp2_with fail
      go_ret2
      exact ⟨rfl, hg1⟩
    · have d1 : decide (x < 0) = false := decide_eq_false h0
      have d2 : decide (16 ≤ x) = true := decide_eq_true (by omega)
      clear hx
      go_enter Tryz.func14, Tryz.ntmps14
      go_wp2_with fail
      go_at_call 18
      refine HV.out.mono ?_
      rintro e w1 ⟨rfl, hg1⟩
      go_wp2_with fail
      go_ret2
      exact ⟨rfl, hg1⟩
  · rw [hok] at hV
    have HV := Lib.hid hV
    clear hV hA hB hok hbad
    go_enter Tryz.func14, Tryz.ntmps14
    go_wp2_with fail
    go_at_call 18
    refine HV.out.mono ?_
    rintro e w1 ⟨rfl, hg1⟩
    go_wp2_with fail
    go_ret2
    exact ⟨rfl, hg1⟩
set_option maxRecDepth 100000 in
set_option maxHeartbeats 16000000 in
theorem times_in (A B : Option Addr) (n c m d : Nat) (nm : Nat → ByteArray) (f t : Nat → Nat → Int) (w : World) (hA : NamedAt w A n nm f) (hB : RowsAt w 4 B m t) (X : Nat) (hok : walkOk nm f n t m = true) (hX : X ≤ 15) :
    Calls Tryz.prog 14 #[.slice A n c, .slice B m d, .int .i64 (X : Int)] w (TimR (if (X : Int) * (m : Int) ≤ 15 then X * m else 0) (if (X : Int) * (m : Int) ≤ 15 then 0 else 2) (tmT t m) w) := by
  have hV := dvalid_any A B n c m d nm f t w hA hB
  rw [hok] at hV
  have HV := Lib.hid hV; have HB := Lib.hid hB
  simp only [walkOk, Bool.and_eq_true, decide_eq_true_eq] at hok
  have hm15 := hok.2.1
  have d1 : decide ((X : Int) < 0) = false := decide_eq_false (by omega)
  have d2 : decide (16 ≤ (X : Int)) = false := decide_eq_false (by omega)
  have d2' : decide (16 ≤ X) = false := decide_eq_false (by omega)
  have hp0 : 0 ≤ (X : Int) * (m : Int) := Int.mul_nonneg (by omega) (by omega)
  have hp1 : (X : Int) * (m : Int) ≤ 15 * 15 := Int.mul_le_mul (by omega) (by omega) (by omega) (by omega)
  have hw1 : IntKind.i64.wrap ((X : Int) * (m : Int)) = (X : Int) * (m : Int) := IntWalk.i64_in _ ⟨by omega, by omega⟩
  have hw2 : wrap64 ((X : Int) * (m : Int)) = (X : Int) * (m : Int) := (IntWalk.i64_left _).symm.trans hw1
  clear hV hA hB hok
  by_cases hp : (X : Int) * (m : Int) ≤ 15
  · rw [if_pos hp, if_pos hp]
    have hpn : X * m ≤ 15 := by have : ((X * m : Nat) : Int) = (X : Int) * (m : Int) := Int.natCast_mul X m; omega
    have d3 : decide (16 ≤ (X : Int) * (m : Int)) = false := decide_eq_false (by omega)
    obtain ⟨i0, hin, hz0, hz1, hz2⟩ := info_parts infoTake
    have HINF := Lib.hid (And.intro hin (And.intro hz0 (And.intro hz1 hz2)))
    have HPN := Lib.hid hpn
    clear hin hz0 hz1 hz2 hp hp0 hp1
    go_enter Tryz.func14, Tryz.ntmps14
    go_wp2_with fail
    go_at_call 18
    refine HV.out.mono ?_
    rintro e w1 ⟨rfl, hg1⟩
    have HG1 := Lib.hid hg1
    have HL0 : Hid (OwnL w1.heap.size 40 4 w1 (.slice none 0 0) (0 * m) (row4C (tmT t m) (0 * m)) w1) := Lib.hid (by rw [Nat.zero_mul]; exact OwnL.start _ _ _ _ (Nat.le_refl _))
    clear hg1
    go_wp2_with fail
    go_loopw [8, 29] (fun lv iv wr => ∃ (LV : Value) (i : Nat), LV = lv ∧ i ≤ X ∧ iv = .int .i64 (i : Int) ∧ OwnL w1.heap.size 40 4 w1 LV (i * m) (row4C (tmT t m) (i * m)) wr) (fun _ iv _ => X - (intOf iv).toNat)
    case atStart => exact ⟨_, 0, rfl, Nat.zero_le _, rfl, HL0.out⟩
    case round =>
      obtain ⟨lv, i, rfl, hi, rfl, hL⟩ := hrel
      have HLL : Hid (OwnL w1.heap.size 40 4 w1 lv (i * m + 0) (row4C (tmT t m) (i * m + 0)) wr) := Lib.hid (by rw [Nat.add_zero]; exact hL)
      have HGR0 := Lib.hid (HG1.out.trans (hL.toGr (Gr.refl _) (Nat.le_refl _)))
      clear HL0
      obtain ⟨wo, rfl⟩ : ∃ wo : World, wo = wr := ⟨_, rfl⟩
      by_cases hli : i < X
      · have hli' : decide ((i : Int) < (X : Int)) = true := decide_eq_true (by omega)
        have hib : i * m + m ≤ 15 := by
          have h1 := HPN.out
          have h2 : (i + 1) * m ≤ X * m := Nat.mul_le_mul_right m hli
          rw [Nat.add_mul, Nat.one_mul] at h2
          omega
        have HSU : Hid ((i + 1) * m = i * m + m) := Lib.hid (by rw [Nat.add_mul, Nat.one_mul])
        have HMD : Hid (∀ k, k < m → (i * m + k) % m = k) := Lib.hid (fun k hk => by rw [Nat.mul_comm, Nat.mul_add_mod, Nat.mod_eq_of_lt hk])
        clear hL
        generalize i * m = im at *
        go_wp2_with fail
        go_loopw [8, 33] (fun lv iv wr => ∃ (LV : Value) (k : Nat), LV = lv ∧ k ≤ m ∧ iv = .int .i64 (k : Int) ∧ OwnL w1.heap.size 40 4 w1 LV (im + k) (row4C (tmT t m) (im + k)) wr) (fun _ iv _ => m - (intOf iv).toNat)
        case atStart => exact ⟨_, 0, rfl, Nat.zero_le _, rfl, HLL.out⟩
        case round =>
          obtain ⟨lv, k, rfl, hk, rfl, hL⟩ := hrel
          have HL2 := Lib.hid hL
          have HGR := Lib.hid (HG1.out.trans (hL.toGr (Gr.refl _) (Nat.le_refl _)))
          have hsz := hL.size
          obtain ⟨wp, rfl⟩ : ∃ wp : World, wp = wr := ⟨_, rfl⟩
          by_cases hlt : k < m
          · have hlt' : decide ((k : Int) < (m : Int)) = true := decide_eq_true (by omega)
            obtain ⟨b, off, rfl, hbl, hcc⟩ := (HB.out.keep HGR.out).at_ hlt
            have c0 := hcc 0 (by omega); have c1 := hcc 1 (by omega); have c2 := hcc 2 (by omega); have c3 := hcc 3 (by omega)
            simp only [Nat.add_zero] at c0
            obtain ⟨A3, c3', hlv, -, -⟩ := rows_of_own hL.own (tmT t m) (fun i j hi hj => row4C_at _ _ i j hi hj)
            subst hlv
            have hR4 : row4C (tmT t m) (im + (k + 1)) = row4C (tmT t m) (im + k) ++ [.int .i64 (((im + k : Nat) : Int) + 1), .int .i64 (t k 1), .int .i64 (t k 2), .int .i64 (t k 3)] := by
              rw [show im + (k + 1) = im + k + 1 by omega, row4C]
              simp only [tmT, if_pos, HMD.out k hlt]
              rfl
            have HR4 := Lib.hid hR4
            clear hcc hL hR4
            generalize t k 0 = t0 at *
            generalize t k 1 = t1 at *
            generalize t k 2 = t2 at *
            generalize t k 3 = t3 at *
            obtain ⟨ik, hik⟩ : ∃ ik, ik = im + k := ⟨_, rfl⟩
            rw [← hik] at HL2 HR4 ⊢
            have hikb : ik ≤ 15 := by omega
            have HIK := Lib.hid hik
            clear hik
            have hw3 : IntKind.i64.wrap ((ik : Int) + 1) = (ik : Int) + 1 := IntWalk.i64_in _ ⟨by omega, by omega⟩
            go_upto_region 12 with fail
            have v1' : ∀ W, W = wp.alloc (.cells #[.int .i64 ((ik : Int) + 1), .int .i64 t1, .int .i64 t2, .int .i64 t3] 40) → W.cell? ⟨wp.heap.size, 0, none⟩ = some (.int .i64 ((ik : Int) + 1)) ∧ W.cell? ⟨wp.heap.size, 1, none⟩ = some (.int .i64 t1) ∧ W.cell? ⟨wp.heap.size, 2, none⟩ = some (.int .i64 t2) ∧ W.cell? ⟨wp.heap.size, 3, none⟩ = some (.int .i64 t3) ∧ wp.heap.size < W.heap.size ∧ Gr wp W := by
              rintro W rfl
              exact ⟨by simp [go_sem], by simp [go_sem], by simp [go_sem], by simp [go_sem], by simp, (Gr.refl _).alloc _⟩
            clear c0 c1 c2 c3 hbl
            generalize wp.alloc (.cells #[.int .i64 ((ik : Int) + 1), .int .i64 t1, .int .i64 t2, .int .i64 t3] 40) = wq at *
            obtain ⟨e0, e1, e2, e3, hzq, hgq⟩ := v1' wq rfl
            have HLQ := Lib.hid (HL2.out.gr hgq)
            have hszq := HLQ.out.size
            clear v1' hgq
            go_wp2_with (at_builtin; refine wpList_append_own _ rfl _ _ 23 rfl w1.heap.size 40 i0 (.agg #[.int .i64 0, .int .i64 0, .int .i64 0, .int .i64 0]) 4 32 Tryz.underlying23 HINF.out.1 HINF.out.2.1 HINF.out.2.2.1 HINF.out.2.2.2 rfl (by decide) _ _ _ rfl (HLQ.out.own.alloc _) ⟨wq.heap.size, 0, none⟩ 1 1 [.int .i64 ((ik : Int) + 1), .int .i64 t1, .int .i64 t2, .int .i64 t3] rfl rfl (cell_four_new _ _ _ _ _ _) (by intro u hu; simp at hu; rcases hu with rfl | rfl | rfl | rfl <;> rfl) (by unfold maxLen; omega) (by omega) (by simp; omega) ?_; intro lv' w5 hown1 hgrow hnil)
            have HL3 : Hid (OwnL w1.heap.size 40 4 w1 lv' (im + (k + 1)) (row4C (tmT t m) (im + (k + 1))) w5) := Lib.hid (by
              have z := (HLQ.out.alloc _).grown hown1 hgrow
              rw [HR4.out, show im + (k + 1) = ik + 1 by rw [HIK.out]; omega]
              exact z)
            clear hown1 hgrow hnil
            go_wp2_with fail
            go_roundw
            case rel => exact ⟨_, k + 1, rfl, by omega, by go_num, HL3.out⟩
            case measure => simp [intOf]; omega
          · obtain rfl : m = k := by omega
            have hlt' : decide ((m : Int) < (m : Int)) = false := decide_eq_false (by omega)
            clear hL
            go_wp2_with fail
            go_roundw
            case rel => exact ⟨_, i + 1, rfl, by omega, by go_num, by rw [HSU.out]; exact HL2.out⟩
            case measure => simp [intOf]; omega
      · obtain rfl : X = i := by omega
        have hli' : decide ((X : Int) < (X : Int)) = false := decide_eq_false (by omega)
        obtain ⟨A3, c3', hlv, hrows, -⟩ := rows_of_own hL.own (tmT t m) (fun i j hi hj => row4C_at _ _ i j hi hj)
        subst hlv
        have HRW := Lib.hid (And.intro hrows (own_cap1 hL.own))
        clear hL hrows
        go_wp2_with fail
        go_ret2
        exact ⟨_, _, rfl, HRW.out.1, HRW.out.2, HGR0.out⟩
  · rw [if_neg hp, if_neg hp]
    have d3 : decide (16 ≤ (X : Int) * (m : Int)) = true := decide_eq_true (by omega)
    clear hp hp0 hp1
    go_enter Tryz.func14, Tryz.ntmps14
    go_wp2_with fail
    go_at_call 18
    refine HV.out.mono ?_
    rintro e w1 ⟨rfl, hg1⟩
    go_wp2_with fail
    go_ret2
    exact timR_none ⟨rfl, hg1⟩
theorem times_any (A B : Option Addr) (n c m d : Nat) (nm : Nat → ByteArray) (f t : Nat → Nat → Int) (w : World) (hA : NamedAt w A n nm f) (hB : RowsAt w 4 B m t) (x : Int) :
    Calls Tryz.prog 14 #[.slice A n c, .slice B m d, .int .i64 x] w (TimR (timN nm f n t m x) (timE nm f n t m x) (tmT t m) w) := by
  rcases btf (walkOk nm f n t m && decide (0 ≤ x ∧ x ≤ 15)) with h | h
  · have h' := h
    simp only [Bool.and_eq_true, decide_eq_true_eq] at h'
    obtain ⟨h1, h2, h3⟩ := h'
    obtain ⟨X, rfl⟩ := Int.eq_ofNat_of_zero_le h2
    have z := times_in A B n c m d nm f t w hA hB X h1 (by omega)
    have e1 : timE nm f n t m (X : Int) = (if (X : Int) * (m : Int) ≤ 15 then 0 else 2) := by unfold timE; rw [if_pos h]
    have e2 : timN nm f n t m (X : Int) = (if (X : Int) * (m : Int) ≤ 15 then X * m else 0) := by
      unfold timN
      rw [e1]
      by_cases hp : (X : Int) * (m : Int) ≤ 15 <;> simp [hp]
    rw [e1, e2]
    exact z
  · have e1 : timE nm f n t m x = 1 := by unfold timE; rw [if_neg (by simp only [h]; simp)]
    have e2 : timN nm f n t m x = 0 := by unfold timN; rw [e1]; rfl
    rw [e1, e2]
    exact (times_arg A B n c m d nm f t w hA hB x h).mono fun e w' h => timR_none h
end Go.Proofs.YtelhmdhhabgihaaGreatDoor
