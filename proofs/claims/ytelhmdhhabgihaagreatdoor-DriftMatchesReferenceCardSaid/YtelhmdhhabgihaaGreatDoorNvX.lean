/-
  comma.named and comma.names.
  comma.Valid.
-/
import Derived.Test.YtelhmdhhabgihaaGreatDoorLayT
import Derived.Test.YtelhmdhhabgihaaGreatDoorRowsAt
import Derived.Maps.OwnSet
import Derived.StringKeys
import Derived.IntWalk
import Derived.Test.YtelhmdhhabgihaaGreatDoorFrX
import Derived.Test.YtelhmdhhabgihaaGreatDoorPOf
import Derived.Test.YtelhmdhhabgihaaGreatDoorRowW
import Derived.Test.YtelhmdhhabgihaaGreatDoorHeld
import Derived.Test.YtelhmdhhabgihaaGreatDoorExps
namespace Go.Proofs.YtelhmdhhabgihaaGreatDoor
open Go.RowKit Go.Shelf

/-- A name is valid. -/
def namedB (s : ByteArray) : Bool := decide (1 ≤ s.size) && (decide (s.size ≤ 16) && (Lib.trimS s.data.toList [97, 98, 99, 100, 101, 102, 103, 104, 105, 106, 107, 108, 109, 110, 111, 112, 113, 114, 115, 116, 117, 118, 119, 120, 121, 122]).isEmpty)
theorem named_any (s : ByteArray) (w : World) (hs : s.size ≤ maxLen) : Calls Tryz.prog 68 #[.string s] w fun e w' => e = .returned (.bool (namedB s)) ∧ Gr w w' := by
  have hcon := fun W => Any.strings_Trim_laid Tryz.lays160 (by kernel_rfl) s ⟨#[97, 98, 99, 100, 101, 102, 103, 104, 105, 106, 107, 108, 109, 110, 111, 112, 113, 114, 115, 116, 117, 118, 119, 120, 121, 122]⟩ W (by unfold maxLen at hs; exact hs) (by decide) (ascii_of_all (by decide))
  have hc2 : ∀ W, Calls Tryz.prog 85 #[.string s, .string ⟨#[97, 98, 99, 100, 101, 102, 103, 104, 105, 106, 107, 108, 109, 110, 111, 112, 113, 114, 115, 116, 117, 118, 119, 120, 121, 122]⟩] W (fun e w' => e = .returned (.string ⟨(Lib.trimS s.data.toList [97, 98, 99, 100, 101, 102, 103, 104, 105, 106, 107, 108, 109, 110, 111, 112, 113, 114, 115, 116, 117, 118, 119, 120, 121, 122]).toArray⟩) ∧ Gr W w') := hcon
  unfold namedB
  generalize hL : Lib.trimS s.data.toList [97, 98, 99, 100, 101, 102, 103, 104, 105, 106, 107, 108, 109, 110, 111, 112, 113, 114, 115, 116, 117, 118, 119, 120, 121, 122] = L at *
  clear hcon hL
  have HC := Lib.hid hc2
  clear hc2
  by_cases h1 : 1 ≤ s.size
  · have d1 : decide (1 ≤ (s.size : Int)) = true := decide_eq_true (by omega)
    rw [decide_eq_true h1, Bool.true_and]
    by_cases h2 : s.size ≤ 16
    · have d2 : decide ((s.size : Int) ≤ 16) = true := decide_eq_true (by omega)
      rw [decide_eq_true h2, Bool.true_and]
      cases L with
      | nil =>
        go_enter Tryz.func68, Tryz.ntmps68
        go_wp2_with fail
        go_at_call 85
        refine (HC.out _).mono ?_
        rintro e w' ⟨rfl, hb⟩
        go_wp2_with fail
        go_ret
        exact ⟨by simp, hb⟩
      | cons c L =>
        go_enter Tryz.func68, Tryz.ntmps68
        go_wp2_with fail
        go_at_call 85
        refine (HC.out _).mono ?_
        rintro e w' ⟨rfl, hb⟩
        go_wp2_with fail
        go_ret
        exact ⟨by simp, hb⟩
    · have d2 : decide ((s.size : Int) ≤ 16) = false := decide_eq_false (by omega)
      rw [decide_eq_false h2, Bool.false_and]
      go_enter Tryz.func68, Tryz.ntmps68
      go_wp2_with fail
      go_ret
      exact ⟨rfl, Gr.refl _⟩
  · have d1 : decide (1 ≤ (s.size : Int)) = false := decide_eq_false (by omega)
    rw [decide_eq_false h1, Bool.false_and]
    go_enter Tryz.func68, Tryz.ntmps68
    go_wp2_with fail
    go_ret
    exact ⟨rfl, Gr.refl _⟩
/-- n named commas lie behind an address: names nm, intervals f. -/
def NamedAt (w : World) (A : Option Addr) (n : Nat) (nm : Nat → ByteArray) (f : Nat → Nat → Int) : Prop :=
  0 < n → ∃ b off, A = some ⟨b, off, none⟩ ∧ b < w.heap.size ∧ ∀ i, i < n → w.cell? ⟨b, off + i * 7, none⟩ = some (.string (nm i)) ∧ (nm i).size ≤ maxLen ∧ ∀ j, j < 6 → w.cell? ⟨b, off + i * 7 + (j + 1), none⟩ = some (.int .i64 (f i j))
theorem NamedAt.keep {w w' : World} {n : Nat} {A : Option Addr} {nm : Nat → ByteArray} {f : Nat → Nat → Int} (h : NamedAt w A n nm f) (g : Gr w w') : NamedAt w' A n nm f := by
  intro hn
  obtain ⟨b, off, rfl, hb, hc⟩ := h hn
  refine ⟨b, off, rfl, Nat.lt_of_lt_of_le hb g.le, fun i hi => ?_⟩
  obtain ⟨h1, h2, h3⟩ := hc i hi
  exact ⟨(Below.cell (p := ⟨b, off + i * 7, none⟩) g hb).trans h1, h2, fun j hj => (Below.cell (p := ⟨b, off + i * 7 + (j + 1), none⟩) g hb).trans (h3 j hj)⟩
theorem NamedAt.seven {w : World} {n k : Nat} {A : Option Addr} {nm : Nat → ByteArray} {f : Nat → Nat → Int} (h : NamedAt w A n nm f) (hk : k < n) : ∃ b off, A = some ⟨b, off, none⟩ ∧ b < w.heap.size ∧ (nm k).size ≤ maxLen ∧
    w.cell? ⟨b, off + k * 7, none⟩ = some (.string (nm k)) ∧ w.cell? ⟨b, off + k * 7 + 1, none⟩ = some (.int .i64 (f k 0)) ∧ w.cell? ⟨b, off + k * 7 + 2, none⟩ = some (.int .i64 (f k 1)) ∧ w.cell? ⟨b, off + k * 7 + 3, none⟩ = some (.int .i64 (f k 2)) ∧
    w.cell? ⟨b, off + k * 7 + 4, none⟩ = some (.int .i64 (f k 3)) ∧ w.cell? ⟨b, off + k * 7 + 5, none⟩ = some (.int .i64 (f k 4)) ∧ w.cell? ⟨b, off + k * 7 + 6, none⟩ = some (.int .i64 (f k 5)) := by
  obtain ⟨b, off, e, hb, hc⟩ := h (by omega)
  obtain ⟨h1, h2, h3⟩ := hc k hk
  exact ⟨b, off, e, hb, h2, h1, h3 0 (by omega), h3 1 (by omega), h3 2 (by omega), h3 3 (by omega), h3 4 (by omega), h3 5 (by omega)⟩
/-- The map of the first names. -/
def namD (nm : Nat → ByteArray) : Nat → DataW Unit
  | 0 => .map []
  | i + 1 => (namD nm i).put (.string (nm i).data.toList) (.lit (.int .i64 (i : Int)))
/-- The first names are distinct. -/
def distB (nm : Nat → ByteArray) : Nat → Bool
  | 0 => true
  | i + 1 => distB nm i && !((List.range i).any fun j => decide ((nm j).data.toList = (nm i).data.toList))
theorem namD_tidy (nm : Nat → ByteArray) : ∀ i, Maps.Tidy (namD nm i)
  | 0 => Maps.tidy_empty
  | i + 1 => (namD_tidy nm i).put (by trivial) _
theorem namD_has (nm : Nat → ByteArray) (s : List UInt8) : ∀ i, Maps.has (namD nm i) (.string s) = (List.range i).any fun j => decide ((nm j).data.toList = s)
  | 0 => by simp [namD, Maps.has_eq]
  | i + 1 => by
    rw [List.range_succ, List.any_append, ← namD_has nm s i, namD]
    by_cases e : (nm i).data.toList = s
    · rw [e, Maps.has_put_same (namD_tidy nm i).isMap (by trivial)]; simp [e]
    · rw [Maps.has_put_other (by intro h; cases h; exact e rfl)]; simp [e]
theorem namD_size (nm : Nat → ByteArray) : ∀ i, Maps.size (namD nm i) ≤ i ∧ (Maps.size (namD nm i) = i ↔ distB nm i = true)
  | 0 => by simp [namD, Maps.size_eq, distB]
  | i + 1 => by
    obtain ⟨h1, h2⟩ := namD_size nm i
    rw [namD, Maps.size_put (namD_tidy nm i), namD_has, distB]
    cases e : (List.range i).any fun j => decide ((nm j).data.toList = (nm i).data.toList) with
    | true => simp; omega
    | false => simp only [Bool.false_eq_true, if_false, Bool.not_false, Bool.and_true]; exact ⟨by omega, by rw [← h2]; omega⟩
set_option maxRecDepth 100000 in
set_option maxHeartbeats 16000000 in
theorem names_any (A : Option Addr) (n c : Nat) (nm : Nat → ByteArray) (f : Nat → Nat → Int) (w : World) (hA : NamedAt w A n nm f) (hn : n ≤ 1000) :
    Calls Tryz.prog 67 #[.slice A n c] w fun e w' => ∃ b, e = .returned (.map (some b)) ∧ w'.ownsMap Tryz.prog 9 (plainElem Tryz.prog 3) b n (namD nm n) ∧ Gr w w' := by
  have HA := Lib.hid hA
  clear hA
  have hmk := fun W => run_makeMap (P := Tryz.prog) 105 W
  have hM0 : ∀ W, W = w.alloc (.map #[] 0) → W.ownsMap Tryz.prog 9 (plainElem Tryz.prog 3) w.heap.size 0 (namD nm 0) ∧ Gr w W := by
    rintro W rfl
    exact ⟨World.ownsMap_made _ _ _ _, (Gr.refl _).alloc _⟩
  have HM0 := Lib.hid hM0
  clear hM0
  go_enter Tryz.func67, Tryz.ntmps67
  go_wp2_with fail
  generalize hW : w.alloc (.map #[] 0) = W1
  have HM1 := Lib.hid (HM0.out W1 hW.symm)
  clear hW hmk HM0
  generalize hMB : w.heap.size = MB at *
  have HMB := Lib.hid hMB
  clear hMB
  go_loopw [9] (fun iv wr => ∃ k : Nat, k ≤ n ∧ iv = .int .i64 (k : Int) ∧ wr.ownsMap Tryz.prog 9 (plainElem Tryz.prog 3) MB k (namD nm k) ∧ Gr w wr) (fun iv _ => n - (intOf iv).toNat)
  case atStart => exact ⟨0, Nat.zero_le _, rfl, HM1.out.1, HM1.out.2⟩
  case round =>
    obtain ⟨k, hk, rfl, hM, hg⟩ := hrel
    have HM := Lib.hid hM; have HG := Lib.hid hg
    have hlm := hM.lt
    clear hM hg HM1
    obtain ⟨wo, rfl⟩ : ∃ wo : World, wo = wr := ⟨_, rfl⟩
    by_cases hlt : k < n
    · have hlt' : decide ((k : Int) < (n : Int)) = true := decide_eq_true (by omega)
      obtain ⟨b, off, rfl, hbl, hsz, c0, c1, c2, c3, c4, c5, c6⟩ := (HA.out.keep HG.out).seven hlt
      have HKEY : Hid (keyOf Tryz.prog 9 (.string (nm k)) = some (.string (nm k).data.toList)) := Lib.hid (WideMaps.keyOf_string_mk Tryz.underlying9 hsz)
      have HVAL : Hid (plainElem (H := Unit) Tryz.prog 3 (.int .i64 (k : Int)) = some (.lit (.int .i64 (k : Int)), [])) := Lib.hid (plainElem_int Tryz.underlying3 (by simp only [Lit.wf, Bool.and_eq_true, decide_eq_true_eq]; rw [show IntKind.i64.min = -9223372036854775808 by decide, show IntKind.i64.max = 9223372036854775807 by decide]; omega))
      have HS : Hid (namD nm (k + 1) = (namD nm k).put (.string (nm k).data.toList) (.lit (.int .i64 (k : Int)))) := Lib.hid rfl
      go_wp2_with (at_mapUpdate; refine wpList_mapUpdate_own _ rfl _ _ _ 105 rfl 9 3 (Maps.string_keyed Tryz.underlying9) Tryz.underlying105 (plainElem Tryz.prog 3) MB k (namD nm k) rfl (HM.out.alloc _) (by unfold maxLen; omega) (.string (nm k)) (.int .i64 (k : Int)) (.string (nm k).data.toList) rfl rfl HKEY.out (.lit (.int .i64 (k : Int))) [] HVAL.out ?_; intro w3 hown1 hgrow; rw [← HS.out] at hown1)
      have hg3 : Gr w w3 := by
        refine Below.trans (HG.out.alloc _) ((Below.refl w.heap.size _).grown hgrow (by have := HG.out.le; simp; omega) (fun g hg => ?_))
        cases hg
        exact Nat.le_of_eq HMB.out
      have HO := Lib.hid hown1; have HG3 := Lib.hid hg3
      clear hown1 hgrow hg3
      go_wp2_with fail
      go_roundw
      case rel => exact ⟨k + 1, by omega, by go_num, HO.out, HG3.out⟩
      case measure => simp [intOf]; omega
    · obtain rfl : k = n := by omega
      have hlt' : decide ((k : Int) < (k : Int)) = false := decide_eq_false (by omega)
      go_wp2_with fail
      go_ret
      exact ⟨MB, rfl, HM.out, HG.out⟩
end Go.Proofs.YtelhmdhhabgihaaGreatDoor

namespace Go.Proofs.YtelhmdhhabgihaaGreatDoor
open Go.RowKit

theorem cell_six_new (w : World) (x0 x1 x2 x3 x4 x5 : Value) (t : TypeId) : ∀ j u, [x0, x1, x2, x3, x4, x5][j]? = some u → (w.alloc (.cells #[x0, x1, x2, x3, x4, x5] t)).cell? ((⟨w.heap.size, 0, none⟩ : Addr).add j) = some u := by
  intro j u hj
  have hlt := (List.getElem?_eq_some_iff.1 hj).1
  simp only [List.length_cons, List.length_nil] at hlt
  obtain rfl | rfl | rfl | rfl | rfl | rfl : j = 0 ∨ j = 1 ∨ j = 2 ∨ j = 3 ∨ j = 4 ∨ j = 5 := by omega
  all_goals
    simp at hj
    subst hj
    simp [go_sem, Addr.add]
/-- The first i commas have valid names and intervals. -/
def rowsOk (nm : Nat → ByteArray) (f : Nat → Nat → Int) : Nat → Bool
  | 0 => true
  | i + 1 => rowsOk nm f i && (namedB (nm i) && allIn ⟨f i 0, f i 1, f i 2, f i 3, f i 4, f i 5⟩ 48 6)
theorem rowsOk_at {nm : Nat → ByteArray} {f : Nat → Nat → Int} {n i : Nat} (h : rowsOk nm f n = true) (hi : i < n) : namedB (nm i) = true ∧ allIn ⟨f i 0, f i 1, f i 2, f i 3, f i 4, f i 5⟩ 48 6 = true := by
  induction n with
  | zero => omega
  | succ n ih =>
    simp only [rowsOk, Bool.and_eq_true] at h
    by_cases e : i = n
    · subst e; exact h.2
    · exact ih h.1 (by omega)
theorem rowsOk_no {nm : Nat → ByteArray} {f : Nat → Nat → Int} {n i : Nat} (hi : i < n) (h : (namedB (nm i) && allIn ⟨f i 0, f i 1, f i 2, f i 3, f i 4, f i 5⟩ 48 6) = false) : rowsOk nm f n = false := by
  cases e : rowsOk nm f n with
  | false => rfl
  | true =>
    have := rowsOk_at e hi
    rw [this.1, this.2] at h
    cases h
theorem rowsOk_bd {nm : Nat → ByteArray} {f : Nat → Nat → Int} {n : Nat} (h : rowsOk nm f n = true) : ∀ i, i < n → ∀ j, j < 6 → -48 ≤ f i j ∧ f i j ≤ 48 := by
  intro i hi j hj
  have := allIn_get (rowsOk_at h hi).2 j hj
  rwa [get_row f i j hj] at this
/-- A list of named commas is valid. -/
def commaB (nm : Nat → ByteArray) (f : Nat → Nat → Int) (n : Nat) : Bool := decide (1 ≤ n) && (decide (n ≤ 6) && (distB nm n && (rowsOk nm f n && (mvB f n && decide (rankP f n = n)))))
theorem commaB_parts {nm : Nat → ByteArray} {f : Nat → Nat → Int} {n : Nat} (h : commaB nm f n = true) : 1 ≤ n ∧ n ≤ 6 ∧ distB nm n = true ∧ rowsOk nm f n = true ∧ mvB f n = true ∧ rankP f n = n := by
  simp only [commaB, Bool.and_eq_true, decide_eq_true_eq] at h
  exact ⟨h.1, h.2.1, h.2.2.1, h.2.2.2.1, h.2.2.2.2.1, h.2.2.2.2.2⟩
set_option maxRecDepth 100000 in
set_option maxHeartbeats 16000000 in
theorem commaValid_any (A : Option Addr) (n c : Nat) (nm : Nat → ByteArray) (f : Nat → Nat → Int) (w : World) (hA : NamedAt w A n nm f) :
    Calls Tryz.prog 44 #[.slice A n c] w fun e w' => e = .returned (.bool (commaB nm f n)) ∧ Gr w w' := by
  by_cases h1 : 1 ≤ n
  · have d1 : decide ((n : Int) < 1) = false := decide_eq_false (by omega)
    have d1' : decide (n < 1) = false := decide_eq_false (by omega)
    unfold commaB
    rw [decide_eq_true h1, Bool.true_and]
    by_cases h6 : n ≤ 6
    · have d2 : decide (6 < (n : Int)) = false := decide_eq_false (by omega)
      have d2' : decide (6 < n) = false := decide_eq_false (by omega)
      rw [decide_eq_true h6, Bool.true_and]
      have HA := Lib.hid hA
      have HN := Lib.hid (fun W (g : Gr w W) => names_any A n c nm f W (hA.keep g) (by omega))
      obtain ⟨hs1, hs2⟩ := namD_size nm n
      clear hA
      rcases btf (distB nm n) with hd | hd
      · rw [hd, Bool.true_and]
        have hsz := hs2.2 hd
        clear hs2 hd
        obtain ⟨i0, hin, hz0, hz1, hz2⟩ := info_parts (show (Tryz.prog.info? 53).map (fun i => (i.zero, i.size, i.bytes)) = some (some (.agg #[.int .i64 0, .int .i64 0, .int .i64 0, .int .i64 0, .int .i64 0, .int .i64 0]), 6, 48) by kernel_rfl)
        have HINF := Lib.hid (And.intro hin (And.intro hz0 (And.intro hz1 hz2)))
        clear hin hz0 hz1 hz2
        go_enter Tryz.func44, Tryz.ntmps44
        go_wp2_with fail
        go_at_call 67
        refine (HN.out _ (Gr.refl _)).mono ?_
        rintro e w1 ⟨b, rfl, hM, hg1⟩
        have hlen := fun ty => hM.len (ty := ty) Tryz.underlying105
        rw [hsz] at hlen
        have HG1 := Lib.hid hg1
        have HL0 : Hid (OwnL w1.heap.size 53 6 w1 (.slice none 0 0) 0 (rowCells f 0) w1) := Lib.hid (OwnL.start _ _ _ _ (Nat.le_refl _))
        clear hM hg1 hs1 hsz
        go_wp2_with fail
        clear hlen
        go_loopw [3, 26] (fun lv iv wr => ∃ (LV : Value) (i : Nat), LV = lv ∧ i ≤ n ∧ iv = .int .i64 (i : Int) ∧ rowsOk nm f i = true ∧ OwnL w1.heap.size 53 6 w1 LV i (rowCells f i) wr) (fun _ iv _ => n - (intOf iv).toNat)
        case atStart => exact ⟨_, 0, rfl, Nat.zero_le _, rfl, rfl, HL0.out⟩
        case round =>
          obtain ⟨lv, i, rfl, hi, rfl, hok, hL⟩ := hrel
          have HLL := Lib.hid hL; have HOK := Lib.hid hok
          have hgr : Gr w1 wr := hL.toGr (Gr.refl _) (Nat.le_refl _)
          have HGR := Lib.hid (HG1.out.trans hgr)
          have hszl := hL.size
          clear hL hok HL0 hgr
          obtain ⟨wo, rfl⟩ : ∃ wo : World, wo = wr := ⟨_, rfl⟩
          by_cases hlt : i < n
          · have hlt' : decide ((i : Int) < (n : Int)) = true := decide_eq_true (by omega)
            obtain ⟨b0, off, rfl, hbl, hsn, c0, c1, c2, c3, c4, c5, c6⟩ := (HA.out.keep HGR.out).seven hlt
            have HNM := Lib.hid (fun W => named_any (nm i) W hsn)
            have HIV := Lib.hid (fun W => pinterval_any (f i 0) (f i 1) (f i 2) (f i 3) (f i 4) (f i 5) W)
            have HR1 : Hid (rowsOk nm f (i + 1) = (namedB (nm i) && allIn ⟨f i 0, f i 1, f i 2, f i 3, f i 4, f i 5⟩ 48 6)) := Lib.hid (by rw [rowsOk, HOK.out, Bool.true_and])
            have HR0 : Hid ((namedB (nm i) && allIn ⟨f i 0, f i 1, f i 2, f i 3, f i 4, f i 5⟩ 48 6) = false → rowsOk nm f n = false) := Lib.hid (fun h => rowsOk_no hlt h)
            go_upto_region 7 with fail
            have v1' : ∀ W, W = wo.alloc (.cells #[.string (nm i), .int .i64 (f i 0), .int .i64 (f i 1), .int .i64 (f i 2), .int .i64 (f i 3), .int .i64 (f i 4), .int .i64 (f i 5)] 65) → W.cell? ⟨wo.heap.size, 0, none⟩ = some (.string (nm i)) ∧ W.cell? ⟨wo.heap.size, 1, none⟩ = some (.int .i64 (f i 0)) ∧ W.cell? ⟨wo.heap.size, 2, none⟩ = some (.int .i64 (f i 1)) ∧ W.cell? ⟨wo.heap.size, 3, none⟩ = some (.int .i64 (f i 2)) ∧ W.cell? ⟨wo.heap.size, 4, none⟩ = some (.int .i64 (f i 3)) ∧ W.cell? ⟨wo.heap.size, 5, none⟩ = some (.int .i64 (f i 4)) ∧ W.cell? ⟨wo.heap.size, 6, none⟩ = some (.int .i64 (f i 5)) ∧ wo.heap.size < W.heap.size ∧ Gr wo W := by
              rintro W rfl
              exact ⟨by simp [go_sem], by simp [go_sem], by simp [go_sem], by simp [go_sem], by simp [go_sem], by simp [go_sem], by simp [go_sem], by simp, (Gr.refl _).alloc _⟩
            clear c0 c1 c2 c3 c4 c5 c6 hbl
            generalize wo.alloc (.cells #[.string (nm i), .int .i64 (f i 0), .int .i64 (f i 1), .int .i64 (f i 2), .int .i64 (f i 3), .int .i64 (f i 4), .int .i64 (f i 5)] 65) = wq at *
            obtain ⟨c0, c1, c2, c3, c4, c5, c6, hzq, hgq⟩ := v1' wq rfl
            have HGQ := Lib.hid hgq
            have HC := Lib.hid (And.intro c1 (And.intro c2 (And.intro c3 (And.intro c4 (And.intro c5 c6)))))
            clear v1' hgq hsn
            generalize wo.heap.size = TB at *
            generalize hnB : namedB (nm i) = nB at *
            generalize hiB : allIn ⟨f i 0, f i 1, f i 2, f i 3, f i 4, f i 5⟩ 48 6 = iB at *
            clear hnB hiB
            rcases btf nB with rfl | rfl
            · rcases btf iB with rfl | rfl
              · have HRN : Hid (rowsOk nm f (i + 1) = true) := Lib.hid (by rw [HR1.out]; rfl)
                clear HR1 HR0
                go_wp2_with fail
                (go_at_call 68; with_reducible refine (HNM.out _).mono ?_; rintro e w' ⟨rfl, hb⟩; have hz := hb.le; obtain ⟨hc, hf⟩ := hb.cells; have hn := hb.cellsN; (try simp only [World.size_alloc] at hc hf hz hn); (try simp only [World.size_setCell] at hc hf hz hn); (try simp only [World.size_drew] at hc hf hz hn))
                go_wp2_with fail
                (go_at_call 47; with_reducible refine (HIV.out _).mono ?_; rintro e w' ⟨rfl, hb⟩; have hz := hb.le; obtain ⟨hc, hf⟩ := hb.cells; have hn := hb.cellsN; (try simp only [World.size_alloc] at hc hf hz hn); (try simp only [World.size_setCell] at hc hf hz hn); (try simp only [World.size_drew] at hc hf hz hn))
                have hgm : Gr wq w' := (by repeat (first | with_reducible exact Gr.refl _ | with_reducible refine Gr.alloc ?_ _ | with_reducible refine Gr.drew ?_ | with_reducible refine Gr.trans ?_ (by assumption) | with_reducible refine Gr.setCell ?_ (by (try simp); (try omega)) _))
                have HLQ := Lib.hid (HLL.out.gr (HGQ.out.trans hgm))
                have hszq := HLQ.out.size
                obtain ⟨d1x, d2x, d3x, d4x, d5x, d6x⟩ := HC.out
                have e1 := (Below.cell (p := ⟨TB, 1, none⟩) hgm hzq).trans d1x
                have e2 := (Below.cell (p := ⟨TB, 2, none⟩) hgm hzq).trans d2x
                have e3 := (Below.cell (p := ⟨TB, 3, none⟩) hgm hzq).trans d3x
                have e4 := (Below.cell (p := ⟨TB, 4, none⟩) hgm hzq).trans d4x
                have e5 := (Below.cell (p := ⟨TB, 5, none⟩) hgm hzq).trans d5x
                have e6 := (Below.cell (p := ⟨TB, 6, none⟩) hgm hzq).trans d6x
                have hzq2 := Nat.lt_of_lt_of_le hzq hgm.le
                clear hb hz hc hf hn hgm c0 c1 c2 c3 c4 c5 c6 d1x d2x d3x d4x d5x d6x hzq HGQ
                obtain ⟨w4, rfl⟩ : ∃ w4 : World, w4 = w' := ⟨_, rfl⟩
                go_wp2_with (at_builtin; refine wpList_append_own _ rfl _ _ 49 rfl w1.heap.size 53 i0 (.agg #[.int .i64 0, .int .i64 0, .int .i64 0, .int .i64 0, .int .i64 0, .int .i64 0]) 6 48 Tryz.underlying49 HINF.out.1 HINF.out.2.1 HINF.out.2.2.1 HINF.out.2.2.2 rfl (by decide) _ _ _ rfl (HLQ.out.own.alloc _) ⟨w4.heap.size, 0, none⟩ 1 1 [.int .i64 (f i 0), .int .i64 (f i 1), .int .i64 (f i 2), .int .i64 (f i 3), .int .i64 (f i 4), .int .i64 (f i 5)] rfl rfl (cell_six_new _ _ _ _ _ _ _ _) (by intro u hu; simp at hu; rcases hu with rfl | rfl | rfl | rfl | rfl | rfl <;> rfl) (by unfold maxLen; omega) (by omega) (by simp; omega) ?_; intro lv' w5 hown1 hgrow hnil)
                have HL3 : Hid (OwnL w1.heap.size 53 6 w1 lv' (i + 1) (rowCells f (i + 1)) w5) := Lib.hid ((HLQ.out.alloc _).grown hown1 hgrow)
                clear hown1 hgrow hnil
                go_wp2_with fail
                go_roundw
                case rel => exact ⟨_, i + 1, rfl, by omega, by go_num, HRN.out, HL3.out⟩
                case measure => simp [intOf]; omega
              · have HRN := Lib.hid (HR0.out rfl)
                clear HR1 HR0
                go_wp2_with fail
                (go_at_call 68; with_reducible refine (HNM.out _).mono ?_; rintro e w' ⟨rfl, hb⟩; have hz := hb.le; obtain ⟨hc, hf⟩ := hb.cells; have hn := hb.cellsN; (try simp only [World.size_alloc] at hc hf hz hn); (try simp only [World.size_setCell] at hc hf hz hn); (try simp only [World.size_drew] at hc hf hz hn))
                go_wp2_with fail
                (go_at_call 47; with_reducible refine (HIV.out _).mono ?_; rintro e w' ⟨rfl, hb⟩; have hz := hb.le; obtain ⟨hc, hf⟩ := hb.cells; have hn := hb.cellsN; (try simp only [World.size_alloc] at hc hf hz hn); (try simp only [World.size_setCell] at hc hf hz hn); (try simp only [World.size_drew] at hc hf hz hn))
                go_wp2_with fail
                go_ret
                exact ⟨ret_bool (by rw [HRN.out]; rfl), (HGR.out.trans HGQ.out).trans (by repeat (first | with_reducible exact Gr.refl _ | with_reducible refine Gr.alloc ?_ _ | with_reducible refine Gr.drew ?_ | with_reducible refine Gr.trans ?_ (by assumption) | with_reducible refine Gr.setCell ?_ (by (try simp); (try omega)) _))⟩
            · have HRN := Lib.hid (HR0.out rfl)
              clear HR1 HR0
              go_wp2_with fail
              (go_at_call 68; with_reducible refine (HNM.out _).mono ?_; rintro e w' ⟨rfl, hb⟩; have hz := hb.le; obtain ⟨hc, hf⟩ := hb.cells; have hn := hb.cellsN; (try simp only [World.size_alloc] at hc hf hz hn); (try simp only [World.size_setCell] at hc hf hz hn); (try simp only [World.size_drew] at hc hf hz hn))
              go_wp2_with fail
              go_ret
              exact ⟨ret_bool (by rw [HRN.out]; rfl), (HGR.out.trans HGQ.out).trans (by repeat (first | with_reducible exact Gr.refl _ | with_reducible refine Gr.alloc ?_ _ | with_reducible refine Gr.drew ?_ | with_reducible refine Gr.trans ?_ (by assumption) | with_reducible refine Gr.setCell ?_ (by (try simp); (try omega)) _))⟩
          · obtain rfl : i = n := by omega
            have hlt' : decide ((i : Int) < (i : Int)) = false := decide_eq_false (by omega)
            obtain ⟨A3, c3, rfl, hrows, -⟩ := rows_of_own HLL.out.own f (fun a j ha hj => rowCells_at f i a j ha hj)
            have hrk := fun W (g : Gr wo W) => rank_any A3 i c3 f W (hrows.keep g) (rowsOk_bd HOK.out) (by omega)
            clear hrows HLL
            rcases btf (mvB f i) with hm | hm
            · rw [hm, if_pos rfl, if_pos rfl] at hrk
              have HRK := Lib.hid hrk
              have HQ : Hid (((rankP f i : Int) == (i : Int)) = (rowsOk nm f i && (mvB f i && decide (rankP f i = i)))) := Lib.hid (by rw [HOK.out, hm, Bool.true_and, Bool.true_and, Bool.eq_iff_iff]; simp; omega)
              have HQ2 : Hid ((rankP f i == i) = (rowsOk nm f i && (mvB f i && decide (rankP f i = i)))) := Lib.hid (by rw [HOK.out, hm, Bool.true_and, Bool.true_and, Bool.eq_iff_iff]; simp)
              clear hrk hm
              go_wp2_with fail
              go_at_call 69
              refine (HRK.out _ (Gr.refl _)).mono ?_
              rintro e w7 ⟨rfl, hb7⟩
              have HG7 := Lib.hid (HGR.out.trans hb7)
              clear hb7
              go_wp2_with fail
              go_ret
              exact ⟨ret_bool (by first | exact HQ.out | exact HQ2.out), HG7.out⟩
            · rw [hm, if_neg (by simp), if_neg (by simp)] at hrk
              have HRK := Lib.hid hrk
              have HQ : Hid ((rowsOk nm f i && (mvB f i && decide (rankP f i = i))) = false) := Lib.hid (by rw [hm, Bool.false_and, Bool.and_false])
              clear hrk hm
              go_wp2_with fail
              go_at_call 69
              refine (HRK.out _ (Gr.refl _)).mono ?_
              rintro e w7 ⟨rfl, hb7⟩
              have HG7 := Lib.hid (HGR.out.trans hb7)
              clear hb7
              go_wp2_with fail
              go_ret
              exact ⟨ret_bool HQ.out.symm, HG7.out⟩
      · rw [hd, Bool.false_and]
        have hsz : Maps.size (namD nm n) < n := by
          have : ¬ Maps.size (namD nm n) = n := fun e => by rw [hs2.1 e] at hd; cases hd
          omega
        clear hs1 hs2 hd
        go_enter Tryz.func44, Tryz.ntmps44
        go_wp2_with fail
        go_at_call 67
        refine (HN.out _ (Gr.refl _)).mono ?_
        rintro e w1 ⟨b, rfl, hM, hg1⟩
        have hlen := fun ty => hM.len (ty := ty) Tryz.underlying105
        have HG1 := Lib.hid hg1
        clear hM hg1
        generalize Maps.size (namD nm n) = SZ at *
        have d3 : decide ((SZ : Int) < (n : Int)) = true := decide_eq_true (by omega)
        have d3' : decide (SZ < n) = true := decide_eq_true (by omega)
        go_wp2_with fail
        go_ret
        exact ⟨rfl, HG1.out⟩
    · have d2 : decide (6 < (n : Int)) = true := decide_eq_true (by omega)
      have d2' : decide (6 < n) = true := decide_eq_true (by omega)
      rw [decide_eq_false h6, Bool.false_and]
      clear hA
      go_enter Tryz.func44, Tryz.ntmps44
      go_wp2_with fail
      go_ret
      exact ⟨rfl, Gr.refl _⟩
  · have d1 : decide ((n : Int) < 1) = true := decide_eq_true (by omega)
    have d1' : decide (n < 1) = true := decide_eq_true (by omega)
    unfold commaB
    rw [decide_eq_false h1, Bool.false_and]
    clear hA
    go_enter Tryz.func44, Tryz.ntmps44
    go_wp2_with fail
    go_ret
    exact ⟨rfl, Gr.refl _⟩
end Go.Proofs.YtelhmdhhabgihaaGreatDoor
