/-
  The law VoiceWay.
-/
import Derived.Test.YtiogfohjepobkaaDoorVWay1
namespace Go.Proofs.YtiogfohjepobkaaDoor
open Go.RowKit

set_option maxRecDepth 100000 in
set_option maxHeartbeats 16000000 in
theorem vway_big (l0 l1 l2 l3 l4 l5 h0 h1 h2 h3 h4 h5 st br : Int) (A U : Option Addr) (n c m d : Nat) (fr tz : Int) (f : Nat → Nat → Int) (u : Nat → Int) (w : World) (hP : Primes w) (hL : Logs w) (_hA : RowsAt w 6 A n f) (_hU : IntsAt w U m u) (_hn : n ≤ 9223372036854775807) (_hm : m ≤ 9223372036854775807) (hbig : ¬ (n ≤ 24 ∧ m ≤ 40)) :
    Calls Tryd.prog 9 #[.agg #[.int .i64 l0, .int .i64 l1, .int .i64 l2, .int .i64 l3, .int .i64 l4, .int .i64 l5, .int .i64 h0, .int .i64 h1, .int .i64 h2, .int .i64 h3, .int .i64 h4, .int .i64 h5, .int .i64 st, .int .i64 br], .slice A n c, .int .i64 fr, .int .i64 tz, .slice U m d] w fun e w' => e = .returned (.bool true) ∧ Gr w w' := by
  have HP := Lib.hid hP; have HL := Lib.hid hL
  clear hP hL
  rcases (by omega : 24 < n ∨ (n ≤ 24 ∧ 40 < m)) with h | ⟨h, h'⟩
  all_goals
    clear hbig
    go_enter Tryd.func9, Tryd.ntmps9
    go_wp2_with fail
    (go_at_call 10; with_reducible refine (vhead_any _ (HP.out.keep (by repeat (first | with_reducible exact Gr.refl _ | with_reducible refine Gr.alloc ?_ _ | with_reducible refine Gr.drew ?_ | with_reducible refine Gr.trans ?_ (by assumption) | with_reducible refine Gr.setCell ?_ (by (try simp); (try omega)) _))) (HL.out.keep (by repeat (first | with_reducible exact Gr.refl _ | with_reducible refine Gr.alloc ?_ _ | with_reducible refine Gr.drew ?_ | with_reducible refine Gr.trans ?_ (by assumption) | with_reducible refine Gr.setCell ?_ (by (try simp); (try omega)) _)))).mono ?_; rintro e w' ⟨rfl, hb⟩; have hz := hb.le; obtain ⟨hc, hf⟩ := hb.cells; have hn := hb.cellsN; (try simp only [World.size_alloc] at hc hf hz hn); (try simp only [World.size_setCell] at hc hf hz hn); (try simp only [World.size_drew] at hc hf hz hn))
    go_wp2_with fail
    go_ret
    exact ⟨rfl, (by repeat (first | with_reducible exact Gr.refl _ | with_reducible refine Gr.alloc ?_ _ | with_reducible refine Gr.drew ?_ | with_reducible refine Gr.trans ?_ (by assumption) | with_reducible refine Gr.setCell ?_ (by (try simp); (try omega)) _))⟩

set_option maxRecDepth 100000 in
set_option maxHeartbeats 16000000 in
theorem vway_bad (l0 l1 l2 l3 l4 l5 h0 h1 h2 h3 h4 h5 st br : Int) (A U : Option Addr) (n c m d : Nat) (fr tz : Int) (f : Nat → Nat → Int) (u : Nat → Int) (w : World) (hP : Primes w) (hL : Logs w) (hA : RowsAt w 6 A n f) (hU : IntsAt w U m u) (_hn : n ≤ 9223372036854775807) (_hm : m ≤ 9223372036854775807) (hs : n ≤ 24 ∧ m ≤ 40) (hB : ∀ W, Gr w W → Calls Tryd.prog 22 #[.agg #[.int .i64 l0, .int .i64 l1, .int .i64 l2, .int .i64 l3, .int .i64 l4, .int .i64 l5, .int .i64 h0, .int .i64 h1, .int .i64 h2, .int .i64 h3, .int .i64 h4, .int .i64 h5, .int .i64 st, .int .i64 br], .slice A n c, .int .i64 fr, .int .i64 tz] W  fun e w' => e = .returned (.tuple #[.slice none 0 0, .int .i64 1]) ∧ Gr W w') :
    Calls Tryd.prog 9 #[.agg #[.int .i64 l0, .int .i64 l1, .int .i64 l2, .int .i64 l3, .int .i64 l4, .int .i64 l5, .int .i64 h0, .int .i64 h1, .int .i64 h2, .int .i64 h3, .int .i64 h4, .int .i64 h5, .int .i64 st, .int .i64 br], .slice A n c, .int .i64 fr, .int .i64 tz, .slice U m d] w fun e w' => e = .returned (.bool true) ∧ Gr w w' := by
  have HP := Lib.hid hP; have HL := Lib.hid hL; have HA := Lib.hid hA; have HU := Lib.hid hU; have HN := Lib.hid (show n ≤ 9223372036854775807 by omega); have HM := Lib.hid (show m ≤ 4611686018427387904 by omega); have HB := Lib.hid hB
  obtain ⟨s1, s2⟩ := hs
  clear hP hL hA hU hB
  go_enter Tryd.func9, Tryd.ntmps9
  go_wp2_with fail
  (go_at_call 10; with_reducible refine (vhead_any _ (HP.out.keep (by repeat (first | with_reducible exact Gr.refl _ | with_reducible refine Gr.alloc ?_ _ | with_reducible refine Gr.drew ?_ | with_reducible refine Gr.trans ?_ (by assumption) | with_reducible refine Gr.setCell ?_ (by (try simp); (try omega)) _))) (HL.out.keep (by repeat (first | with_reducible exact Gr.refl _ | with_reducible refine Gr.alloc ?_ _ | with_reducible refine Gr.drew ?_ | with_reducible refine Gr.trans ?_ (by assumption) | with_reducible refine Gr.setCell ?_ (by (try simp); (try omega)) _)))).mono ?_; rintro e w' ⟨rfl, hb⟩; have hz := hb.le; obtain ⟨hc, hf⟩ := hb.cells; have hn := hb.cellsN; (try simp only [World.size_alloc] at hc hf hz hn); (try simp only [World.size_setCell] at hc hf hz hn); (try simp only [World.size_drew] at hc hf hz hn))
  go_wp2_with fail
  (go_at_call 22; with_reducible refine (HB.out _ (by repeat (first | with_reducible exact Gr.refl _ | with_reducible refine Gr.alloc ?_ _ | with_reducible refine Gr.drew ?_ | with_reducible refine Gr.trans ?_ (by assumption) | with_reducible refine Gr.setCell ?_ (by (try simp); (try omega)) _))).mono ?_; rintro e w' ⟨rfl, hb⟩; have hz := hb.le; obtain ⟨hc, hf⟩ := hb.cells; have hn := hb.cellsN; (try simp only [World.size_alloc] at hc hf hz hn); (try simp only [World.size_setCell] at hc hf hz hn); (try simp only [World.size_drew] at hc hf hz hn))
  go_wp2_with fail
  have hW := fun W (g : Gr w W) => way_any l0 l1 l2 l3 l4 l5 h0 h1 h2 h3 h4 h5 st br A U n c m d fr tz f u W (HP.out.keep g) (HL.out.keep g) (HA.out.keep g) (HU.out.keep g) HN.out HM.out
  generalize wayB (voiceOk ⟨l0, l1, l2, l3, l4, l5⟩ ⟨h0, h1, h2, h3, h4, h5⟩ st br) ⟨l0, l1, l2, l3, l4, l5⟩ ⟨h0, h1, h2, h3, h4, h5⟩ st n f fr tz u m = R at hW
  (go_at_call 30; with_reducible refine (hW _ (by repeat (first | with_reducible exact Gr.refl _ | with_reducible refine Gr.alloc ?_ _ | with_reducible refine Gr.drew ?_ | with_reducible refine Gr.trans ?_ (by assumption) | with_reducible refine Gr.setCell ?_ (by (try simp); (try omega)) _))).mono ?_; rintro e w' ⟨rfl, hb⟩; have hz := hb.le; obtain ⟨hc, hf⟩ := hb.cells; have hn := hb.cellsN; (try simp only [World.size_alloc] at hc hf hz hn); (try simp only [World.size_setCell] at hc hf hz hn); (try simp only [World.size_drew] at hc hf hz hn))
  go_wp2_with fail
  go_ret
  exact ⟨rfl, (by repeat (first | with_reducible exact Gr.refl _ | with_reducible refine Gr.alloc ?_ _ | with_reducible refine Gr.drew ?_ | with_reducible refine Gr.trans ?_ (by assumption) | with_reducible refine Gr.setCell ?_ (by (try simp); (try omega)) _))⟩

set_option maxRecDepth 100000 in
set_option maxHeartbeats 16000000 in
theorem vway_good (l0 l1 l2 l3 l4 l5 h0 h1 h2 h3 h4 h5 st br : Int) (A U : Option Addr) (n c m d fr tz : Nat) (f : Nat → Nat → Int) (u : Nat → Int) (w : World) (hP : Primes w) (hL : Logs w) (hA : RowsAt w 6 A n f) (hU : IntsAt w U m u) (_hn : n ≤ 9223372036854775807) (_hm : m ≤ 9223372036854775807) (hs : n ≤ 24 ∧ m ≤ 40) (hok : voiceOk ⟨l0, l1, l2, l3, l4, l5⟩ ⟨h0, h1, h2, h3, h4, h5⟩ st br = true) (hv : vecsOk f n = true) (hfr : fr < n) (htz : tz < n) :
    Calls Tryd.prog 9 #[.agg #[.int .i64 l0, .int .i64 l1, .int .i64 l2, .int .i64 l3, .int .i64 l4, .int .i64 l5, .int .i64 h0, .int .i64 h1, .int .i64 h2, .int .i64 h3, .int .i64 h4, .int .i64 h5, .int .i64 st, .int .i64 br], .slice A n c, .int .i64 (fr : Int), .int .i64 (tz : Int), .slice U m d] w fun e w' => e = .returned (.bool true) ∧ Gr w w' := by
  have hG := fun W (g : Gr w W) => way_good l0 l1 l2 l3 l4 l5 h0 h1 h2 h3 h4 h5 st br A n c fr tz f W (hP.keep g) (hL.keep g) (hA.keep g) hok (by omega) hv hfr htz
  have HWG := Lib.hid hG
  have HP := Lib.hid hP; have HL := Lib.hid hL; have HA := Lib.hid hA; have HU := Lib.hid hU; have HN := Lib.hid (show n ≤ 9223372036854775807 by omega); have HM := Lib.hid (show m ≤ 4611686018427387904 by omega)
  obtain ⟨s1, s2⟩ := hs
  have HV := Lib.hid hv
  have hW := fun W (g : Gr w W) => way_any l0 l1 l2 l3 l4 l5 h0 h1 h2 h3 h4 h5 st br A U n c m d fr tz f u W (HP.out.keep g) (HL.out.keep g) (HA.out.keep g) (HU.out.keep g) HN.out HM.out
  have hW2 := fun W (g : Gr w W) A2 L c2 u2 (hI : IntsAt W A2 L u2) (hLL : L ≤ 24) => way_any l0 l1 l2 l3 l4 l5 h0 h1 h2 h3 h4 h5 st br A A2 n c L c2 fr tz f u2 W (HP.out.keep g) (HL.out.keep g) (HA.out.keep g) hI HN.out (by omega)
  rw [hok] at hW hW2
  have HW := Lib.hid hW
  have HW2 := Lib.hid hW2
  clear hP hL hA hU hG hv hok hW hW2
  go_enter Tryd.func9, Tryd.ntmps9
  go_wp2_with fail
  (go_at_call 10; with_reducible refine (vhead_any _ (HP.out.keep (by repeat (first | with_reducible exact Gr.refl _ | with_reducible refine Gr.alloc ?_ _ | with_reducible refine Gr.drew ?_ | with_reducible refine Gr.trans ?_ (by assumption) | with_reducible refine Gr.setCell ?_ (by (try simp); (try omega)) _))) (HL.out.keep (by repeat (first | with_reducible exact Gr.refl _ | with_reducible refine Gr.alloc ?_ _ | with_reducible refine Gr.drew ?_ | with_reducible refine Gr.trans ?_ (by assumption) | with_reducible refine Gr.setCell ?_ (by (try simp); (try omega)) _)))).mono ?_; rintro e w' ⟨rfl, hb⟩; have hz := hb.le; obtain ⟨hc, hf⟩ := hb.cells; have hn := hb.cellsN; (try simp only [World.size_alloc] at hc hf hz hn); (try simp only [World.size_setCell] at hc hf hz hn); (try simp only [World.size_drew] at hc hf hz hn))
  go_wp2_with fail
  go_at_call 22
  with_reducible refine (HWG.out _ (by repeat (first | with_reducible exact Gr.refl _ | with_reducible refine Gr.alloc ?_ _ | with_reducible refine Gr.drew ?_ | with_reducible refine Gr.trans ?_ (by assumption) | with_reducible refine Gr.setCell ?_ (by (try simp); (try omega)) _))).mono ?_
  rintro e w' ⟨hb, hres⟩
  have hz := hb.le
  obtain ⟨hc, hf⟩ := hb.cells
  have hn := hb.cellsN
  (try simp only [World.size_alloc] at hc hf hz hn); (try simp only [World.size_setCell] at hc hf hz hn); (try simp only [World.size_drew] at hc hf hz hn)
  have hcase : (wayB true ⟨l0, l1, l2, l3, l4, l5⟩ ⟨h0, h1, h2, h3, h4, h5⟩ st n f fr tz u m = false ∧ e = .returned (.tuple #[.slice none 0 0, .int .i64 4])) ∨
      ∃ (L : Nat) (A2 : Option Addr) (c2 : Nat) (u2 : Nat → Int), L ≤ n ∧ (wayB true ⟨l0, l1, l2, l3, l4, l5⟩ ⟨h0, h1, h2, h3, h4, h5⟩ st n f fr tz u m = true → L ≤ m) ∧ wayB true ⟨l0, l1, l2, l3, l4, l5⟩ ⟨h0, h1, h2, h3, h4, h5⟩ st n f fr tz u2 L = true ∧ e = .returned (.tuple #[.slice A2 L c2, .int .i64 0]) ∧ IntsAt w' A2 L u2 := by
    rcases hres with ⟨h1, h2⟩ | ⟨h1, far, h2, h3, ⟨h4, h5⟩ | ⟨h4, l, v, h5, h6, h7⟩⟩
    · exact Or.inl ⟨wayB_noHas h1, h2⟩
    · exact Or.inl ⟨wayB_none h2 hfr h4, h5⟩
    · obtain ⟨A2, c2, rfl, hI⟩ := ints_own (u := fun j => ((l[j]?.getD 0 : Nat) : Int)) h7 (fun j hj => by rw [List.getElem?_map, List.getElem?_eq_getElem hj]; rfl)
      obtain ⟨p1, p2, p3⟩ := wayOk_wayB h2 h1 HV.out hfr h4 h3 h5 (fun j => ((l[j]?.getD 0 : Nat) : Int)) (fun j k hk => by show ((l[j]?.getD 0 : Nat) : Int) = _; rw [hk]; rfl)
      exact Or.inr ⟨l.length, A2, c2, _, p3, fun hy => by have := wayB_len h2 hfr hy; omega, p1, h6, hI⟩
  clear hres
  rcases hcase with ⟨hR, rfl⟩ | ⟨L, A2, c2, u2, hLn, hLm, hw2, rfl, hI⟩
  · go_wp2_with fail
    have hW := HW.out
    rw [hR] at hW
    (go_at_call 30; with_reducible refine (hW _ (by repeat (first | with_reducible exact Gr.refl _ | with_reducible refine Gr.alloc ?_ _ | with_reducible refine Gr.drew ?_ | with_reducible refine Gr.trans ?_ (by assumption) | with_reducible refine Gr.setCell ?_ (by (try simp); (try omega)) _))).mono ?_; rintro e w' ⟨rfl, hb⟩; have hz := hb.le; obtain ⟨hc, hf⟩ := hb.cells; have hn := hb.cellsN; (try simp only [World.size_alloc] at hc hf hz hn); (try simp only [World.size_setCell] at hc hf hz hn); (try simp only [World.size_drew] at hc hf hz hn))
    go_wp2_with fail
    go_ret
    exact ⟨rfl, (by repeat (first | with_reducible exact Gr.refl _ | with_reducible refine Gr.alloc ?_ _ | with_reducible refine Gr.drew ?_ | with_reducible refine Gr.trans ?_ (by assumption) | with_reducible refine Gr.setCell ?_ (by (try simp); (try omega)) _))⟩
  · have HI := Lib.hid hI
    have HLM := Lib.hid hLm
    have HW3 := Lib.hid hw2
    clear hI hLm hw2
    go_wp2_with fail
    have hW := HW.out
    rcases tf (wayB true ⟨l0, l1, l2, l3, l4, l5⟩ ⟨h0, h1, h2, h3, h4, h5⟩ st n f fr tz u m) with q | q
    all_goals rw [q] at hW
    · have hle := HLM.out q
      clear q
      (go_at_call 30; with_reducible refine (hW _ (by repeat (first | with_reducible exact Gr.refl _ | with_reducible refine Gr.alloc ?_ _ | with_reducible refine Gr.drew ?_ | with_reducible refine Gr.trans ?_ (by assumption) | with_reducible refine Gr.setCell ?_ (by (try simp); (try omega)) _))).mono ?_; rintro e w' ⟨rfl, hb⟩; have hz := hb.le; obtain ⟨hc, hf⟩ := hb.cells; have hn := hb.cellsN; (try simp only [World.size_alloc] at hc hf hz hn); (try simp only [World.size_setCell] at hc hf hz hn); (try simp only [World.size_drew] at hc hf hz hn))
      clear hW
      go_wp2_with fail
      have hX := HW2.out
      go_at_call 30
      with_reducible refine (HW2.out _ (by repeat (first | with_reducible exact Gr.refl _ | with_reducible refine Gr.alloc ?_ _ | with_reducible refine Gr.drew ?_ | with_reducible refine Gr.trans ?_ (by assumption) | with_reducible refine Gr.setCell ?_ (by (try simp); (try omega)) _)) A2 L c2 u2 (HI.out.keep (by repeat (first | with_reducible exact Gr.refl _ | with_reducible refine Gr.alloc ?_ _ | with_reducible refine Gr.drew ?_ | with_reducible refine Gr.trans ?_ (by assumption) | with_reducible refine Gr.setCell ?_ (by (try simp); (try omega)) _))) (by omega)).mono ?_
      rw [HW3.out]
      rintro e w2 ⟨rfl, hb2⟩
      go_wp2_with fail
      go_ret
      exact ⟨rfl, (by repeat (first | with_reducible exact Gr.refl _ | with_reducible refine Gr.alloc ?_ _ | with_reducible refine Gr.drew ?_ | with_reducible refine Gr.trans ?_ (by assumption) | with_reducible refine Gr.setCell ?_ (by (try simp); (try omega)) _))⟩
    · clear q
      (go_at_call 30; with_reducible refine (hW _ (by repeat (first | with_reducible exact Gr.refl _ | with_reducible refine Gr.alloc ?_ _ | with_reducible refine Gr.drew ?_ | with_reducible refine Gr.trans ?_ (by assumption) | with_reducible refine Gr.setCell ?_ (by (try simp); (try omega)) _))).mono ?_; rintro e w' ⟨rfl, hb⟩; have hz := hb.le; obtain ⟨hc, hf⟩ := hb.cells; have hn := hb.cellsN; (try simp only [World.size_alloc] at hc hf hz hn); (try simp only [World.size_setCell] at hc hf hz hn); (try simp only [World.size_drew] at hc hf hz hn))
      clear hW
      go_wp2_with fail
      go_at_call 30
      with_reducible refine (HW2.out _ (by repeat (first | with_reducible exact Gr.refl _ | with_reducible refine Gr.alloc ?_ _ | with_reducible refine Gr.drew ?_ | with_reducible refine Gr.trans ?_ (by assumption) | with_reducible refine Gr.setCell ?_ (by (try simp); (try omega)) _)) A2 L c2 u2 (HI.out.keep (by repeat (first | with_reducible exact Gr.refl _ | with_reducible refine Gr.alloc ?_ _ | with_reducible refine Gr.drew ?_ | with_reducible refine Gr.trans ?_ (by assumption) | with_reducible refine Gr.setCell ?_ (by (try simp); (try omega)) _))) (by omega)).mono ?_
      rw [HW3.out]
      rintro e w2 ⟨rfl, hb2⟩
      go_wp2_with fail
      go_ret
      exact ⟨rfl, (by repeat (first | with_reducible exact Gr.refl _ | with_reducible refine Gr.alloc ?_ _ | with_reducible refine Gr.drew ?_ | with_reducible refine Gr.trans ?_ (by assumption) | with_reducible refine Gr.setCell ?_ (by (try simp); (try omega)) _))⟩

theorem vway_law (l0 l1 l2 l3 l4 l5 h0 h1 h2 h3 h4 h5 st br : Int) (fr tz : Int) (A U : Option Addr) (n c m d : Nat) (f : Nat → Nat → Int) (u : Nat → Int) (w : World) (hP : Primes w) (hL : Logs w) (hA : RowsAt w 6 A n f) (hU : IntsAt w U m u) (hn : n ≤ 9223372036854775807) (hm : m ≤ 9223372036854775807) :
    Calls Tryd.prog 9 #[.agg #[.int .i64 l0, .int .i64 l1, .int .i64 l2, .int .i64 l3, .int .i64 l4, .int .i64 l5, .int .i64 h0, .int .i64 h1, .int .i64 h2, .int .i64 h3, .int .i64 h4, .int .i64 h5, .int .i64 st, .int .i64 br], .slice A n c, .int .i64 fr, .int .i64 tz, .slice U m d] w fun e w' => e = .returned (.bool true) ∧ Gr w w' := by
  by_cases hs : n ≤ 24 ∧ m ≤ 40
  · rcases tf (voiceOk ⟨l0, l1, l2, l3, l4, l5⟩ ⟨h0, h1, h2, h3, h4, h5⟩ st br) with q1 | q1
    · rcases tf (vecsOk f n) with q2 | q2
      · by_cases hft : 0 ≤ fr ∧ fr < n ∧ 0 ≤ tz ∧ tz < n
        · obtain ⟨fr, rfl⟩ : ∃ k : Nat, fr = (k : Int) := ⟨fr.toNat, by omega⟩
          obtain ⟨tz, rfl⟩ : ∃ k : Nat, tz = (k : Int) := ⟨tz.toNat, by omega⟩
          exact vway_good l0 l1 l2 l3 l4 l5 h0 h1 h2 h3 h4 h5 st br A U n c m d fr tz f u w hP hL hA hU hn hm hs q1 q2 (by omega) (by omega)
        · exact vway_bad l0 l1 l2 l3 l4 l5 h0 h1 h2 h3 h4 h5 st br A U n c m d fr tz f u w hP hL hA hU hn hm hs (fun W g => way_bad4 l0 l1 l2 l3 l4 l5 h0 h1 h2 h3 h4 h5 st br A n c fr tz f W (hP.keep g) (hA.keep g) q1 (by omega) q2 hft)
      · exact vway_bad l0 l1 l2 l3 l4 l5 h0 h1 h2 h3 h4 h5 st br A U n c m d fr tz f u w hP hL hA hU hn hm hs (fun W g => way_bad3 l0 l1 l2 l3 l4 l5 h0 h1 h2 h3 h4 h5 st br A n c fr tz f W (hP.keep g) (hA.keep g) q1 (by omega) q2)
    · exact vway_bad l0 l1 l2 l3 l4 l5 h0 h1 h2 h3 h4 h5 st br A U n c m d fr tz f u w hP hL hA hU hn hm hs (fun W g => way_bad1 l0 l1 l2 l3 l4 l5 h0 h1 h2 h3 h4 h5 st br A n c fr tz W (hP.keep g) q1)
  · exact vway_big l0 l1 l2 l3 l4 l5 h0 h1 h2 h3 h4 h5 st br A U n c m d fr tz f u w hP hL hA hU hn hm hs
end Go.Proofs.YtiogfohjepobkaaDoor
