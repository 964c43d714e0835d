/-
  The law VoiceBreaths.
-/
import Derived.Test.YtiogfohjepobkaaDoorBrS
import Derived.Test.YtiogfohjepobkaaDoorVHd
namespace Go.Proofs.YtiogfohjepobkaaDoor
open Go.RowKit

theorem breathP_gr {g : Nat → Int} {m : Nat → Bool} {br : Int} {n : Nat} {w w' : World} {e : Ending} (h : BreathP g m br n w e w') : Gr w w' := by
  rcases h with ⟨l, v, h1, h2, h3, h4, h5⟩ | ⟨pre, h1, h2, h3⟩
  · exact h5
  · exact h3

set_option maxRecDepth 100000 in
set_option maxHeartbeats 16000000 in
theorem vbr_bad1 (l0 l1 l2 l3 l4 l5 h0 h1 h2 h3 h4 h5 st br : Int) (A M U : Option Addr) (n c nm cm k d : Nat) (g : Nat → Int) (m : Nat → Bool) (u : Nat → Int) (w : World) (hP : Primes w) (hL : Logs w) (hA : IntsAt w A n g) (hM : BoolsAt w M nm m) (hU : IntsAt w U k u) (_hk : k ≤ 9223372036854775807) (hB : ∀ W, Gr w W → Calls Tryd.prog 17 #[.agg #[.int .i64 l0, .int .i64 l1, .int .i64 l2, .int .i64 l3, .int .i64 l4, .int .i64 l5, .int .i64 h0, .int .i64 h1, .int .i64 h2, .int .i64 h3, .int .i64 h4, .int .i64 h5, .int .i64 st, .int .i64 br], .slice A n c, .slice M nm cm] W fun e w' => e = .returned (.tuple #[.slice none 0 0, .int .i64 1]) ∧ Gr W w') (hV : ∀ W, Gr w W → Calls Tryd.prog 11 #[.agg #[.int .i64 l0, .int .i64 l1, .int .i64 l2, .int .i64 l3, .int .i64 l4, .int .i64 l5, .int .i64 h0, .int .i64 h1, .int .i64 h2, .int .i64 h3, .int .i64 h4, .int .i64 h5, .int .i64 st, .int .i64 br]] W fun e w' => e = .returned (.bool false) ∧ Gr W w') :
    Calls Tryd.prog 6 #[.agg #[.int .i64 l0, .int .i64 l1, .int .i64 l2, .int .i64 l3, .int .i64 l4, .int .i64 l5, .int .i64 h0, .int .i64 h1, .int .i64 h2, .int .i64 h3, .int .i64 h4, .int .i64 h5, .int .i64 st, .int .i64 br], .slice A n c, .slice M nm cm, .slice U k d] w fun e w' => e = .returned (.bool true) ∧ Gr w w' := by
  have HP := Lib.hid hP; have HL := Lib.hid hL; have HA := Lib.hid hA; have HM := Lib.hid hM; have HU := Lib.hid hU
  have HB := Lib.hid hB; have HV := Lib.hid hV
  clear hP hL hA hM hU hB hV
  go_enter Tryd.func6, Tryd.ntmps6
  go_wp2_with fail
  (go_at_call 10; with_reducible refine (vhead_any _ (HP.out.keep (by repeat (first | with_reducible exact Gr.refl _ | with_reducible refine Gr.alloc ?_ _ | with_reducible refine Gr.drew ?_ | with_reducible refine Gr.trans ?_ (by assumption) | with_reducible refine Gr.setCell ?_ (by (try simp); (try omega)) _))) (HL.out.keep (by repeat (first | with_reducible exact Gr.refl _ | with_reducible refine Gr.alloc ?_ _ | with_reducible refine Gr.drew ?_ | with_reducible refine Gr.trans ?_ (by assumption) | with_reducible refine Gr.setCell ?_ (by (try simp); (try omega)) _)))).mono ?_; rintro e w' ⟨rfl, hb⟩; have hz := hb.le; obtain ⟨hc, hf⟩ := hb.cells; have hn := hb.cellsN; (try simp only [World.size_alloc] at hc hf hz hn); (try simp only [World.size_setCell] at hc hf hz hn); (try simp only [World.size_drew] at hc hf hz hn))
  go_wp2_with fail
  (go_at_call 17; with_reducible refine (HB.out _ (by repeat (first | with_reducible exact Gr.refl _ | with_reducible refine Gr.alloc ?_ _ | with_reducible refine Gr.drew ?_ | with_reducible refine Gr.trans ?_ (by assumption) | with_reducible refine Gr.setCell ?_ (by (try simp); (try omega)) _))).mono ?_; rintro e w' ⟨rfl, hb⟩; have hz := hb.le; obtain ⟨hc, hf⟩ := hb.cells; have hn := hb.cellsN; (try simp only [World.size_alloc] at hc hf hz hn); (try simp only [World.size_setCell] at hc hf hz hn); (try simp only [World.size_drew] at hc hf hz hn))
  go_wp2_with fail
  (go_at_call 11; with_reducible refine (HV.out _ (by repeat (first | with_reducible exact Gr.refl _ | with_reducible refine Gr.alloc ?_ _ | with_reducible refine Gr.drew ?_ | with_reducible refine Gr.trans ?_ (by assumption) | with_reducible refine Gr.setCell ?_ (by (try simp); (try omega)) _))).mono ?_; rintro e w' ⟨rfl, hb⟩; have hz := hb.le; obtain ⟨hc, hf⟩ := hb.cells; have hn := hb.cellsN; (try simp only [World.size_alloc] at hc hf hz hn); (try simp only [World.size_setCell] at hc hf hz hn); (try simp only [World.size_drew] at hc hf hz hn))
  go_wp2_with fail
  go_ret
  exact ⟨rfl, (by repeat (first | with_reducible exact Gr.refl _ | with_reducible refine Gr.alloc ?_ _ | with_reducible refine Gr.drew ?_ | with_reducible refine Gr.trans ?_ (by assumption) | with_reducible refine Gr.setCell ?_ (by (try simp); (try omega)) _))⟩

set_option maxRecDepth 100000 in
set_option maxHeartbeats 16000000 in
theorem vbr_bad2 (l0 l1 l2 l3 l4 l5 h0 h1 h2 h3 h4 h5 st br : Int) (A M U : Option Addr) (n c nm cm k d : Nat) (g : Nat → Int) (m : Nat → Bool) (u : Nat → Int) (w : World) (hP : Primes w) (hL : Logs w) (hA : IntsAt w A n g) (hM : BoolsAt w M nm m) (hU : IntsAt w U k u) (_hk : k ≤ 9223372036854775807) (hB : ∀ W, Gr w W → Calls Tryd.prog 17 #[.agg #[.int .i64 l0, .int .i64 l1, .int .i64 l2, .int .i64 l3, .int .i64 l4, .int .i64 l5, .int .i64 h0, .int .i64 h1, .int .i64 h2, .int .i64 h3, .int .i64 h4, .int .i64 h5, .int .i64 st, .int .i64 br], .slice A n c, .slice M nm cm] W fun e w' => e = .returned (.tuple #[.slice none 0 0, .int .i64 1]) ∧ Gr W w') (hV : ∀ W, Gr w W → Calls Tryd.prog 11 #[.agg #[.int .i64 l0, .int .i64 l1, .int .i64 l2, .int .i64 l3, .int .i64 l4, .int .i64 l5, .int .i64 h0, .int .i64 h1, .int .i64 h2, .int .i64 h3, .int .i64 h4, .int .i64 h5, .int .i64 st, .int .i64 br]] W fun e w' => e = .returned (.bool true) ∧ Gr W w') (hF : ∀ W, Gr w W → Calls Tryd.prog 27 #[.slice A n c, .slice M nm cm] W fun e w' => e = .returned (.bool false) ∧ Gr W w') :
    Calls Tryd.prog 6 #[.agg #[.int .i64 l0, .int .i64 l1, .int .i64 l2, .int .i64 l3, .int .i64 l4, .int .i64 l5, .int .i64 h0, .int .i64 h1, .int .i64 h2, .int .i64 h3, .int .i64 h4, .int .i64 h5, .int .i64 st, .int .i64 br], .slice A n c, .slice M nm cm, .slice U k d] w fun e w' => e = .returned (.bool true) ∧ Gr w w' := by
  have HP := Lib.hid hP; have HL := Lib.hid hL; have HA := Lib.hid hA; have HM := Lib.hid hM; have HU := Lib.hid hU
  have HB := Lib.hid hB; have HV := Lib.hid hV; have HF := Lib.hid hF
  clear hP hL hA hM hU hB hV hF
  go_enter Tryd.func6, Tryd.ntmps6
  go_wp2_with fail
  (go_at_call 10; with_reducible refine (vhead_any _ (HP.out.keep (by repeat (first | with_reducible exact Gr.refl _ | with_reducible refine Gr.alloc ?_ _ | with_reducible refine Gr.drew ?_ | with_reducible refine Gr.trans ?_ (by assumption) | with_reducible refine Gr.setCell ?_ (by (try simp); (try omega)) _))) (HL.out.keep (by repeat (first | with_reducible exact Gr.refl _ | with_reducible refine Gr.alloc ?_ _ | with_reducible refine Gr.drew ?_ | with_reducible refine Gr.trans ?_ (by assumption) | with_reducible refine Gr.setCell ?_ (by (try simp); (try omega)) _)))).mono ?_; rintro e w' ⟨rfl, hb⟩; have hz := hb.le; obtain ⟨hc, hf⟩ := hb.cells; have hn := hb.cellsN; (try simp only [World.size_alloc] at hc hf hz hn); (try simp only [World.size_setCell] at hc hf hz hn); (try simp only [World.size_drew] at hc hf hz hn))
  go_wp2_with fail
  (go_at_call 17; with_reducible refine (HB.out _ (by repeat (first | with_reducible exact Gr.refl _ | with_reducible refine Gr.alloc ?_ _ | with_reducible refine Gr.drew ?_ | with_reducible refine Gr.trans ?_ (by assumption) | with_reducible refine Gr.setCell ?_ (by (try simp); (try omega)) _))).mono ?_; rintro e w' ⟨rfl, hb⟩; have hz := hb.le; obtain ⟨hc, hf⟩ := hb.cells; have hn := hb.cellsN; (try simp only [World.size_alloc] at hc hf hz hn); (try simp only [World.size_setCell] at hc hf hz hn); (try simp only [World.size_drew] at hc hf hz hn))
  go_wp2_with fail
  (go_at_call 11; with_reducible refine (HV.out _ (by repeat (first | with_reducible exact Gr.refl _ | with_reducible refine Gr.alloc ?_ _ | with_reducible refine Gr.drew ?_ | with_reducible refine Gr.trans ?_ (by assumption) | with_reducible refine Gr.setCell ?_ (by (try simp); (try omega)) _))).mono ?_; rintro e w' ⟨rfl, hb⟩; have hz := hb.le; obtain ⟨hc, hf⟩ := hb.cells; have hn := hb.cellsN; (try simp only [World.size_alloc] at hc hf hz hn); (try simp only [World.size_setCell] at hc hf hz hn); (try simp only [World.size_drew] at hc hf hz hn))
  go_wp2_with fail
  (go_at_call 27; with_reducible refine (HF.out _ (by repeat (first | with_reducible exact Gr.refl _ | with_reducible refine Gr.alloc ?_ _ | with_reducible refine Gr.drew ?_ | with_reducible refine Gr.trans ?_ (by assumption) | with_reducible refine Gr.setCell ?_ (by (try simp); (try omega)) _))).mono ?_; rintro e w' ⟨rfl, hb⟩; have hz := hb.le; obtain ⟨hc, hf⟩ := hb.cells; have hn := hb.cellsN; (try simp only [World.size_alloc] at hc hf hz hn); (try simp only [World.size_setCell] at hc hf hz hn); (try simp only [World.size_drew] at hc hf hz hn))
  go_wp2_with fail
  go_ret
  exact ⟨rfl, (by repeat (first | with_reducible exact Gr.refl _ | with_reducible refine Gr.alloc ?_ _ | with_reducible refine Gr.drew ?_ | with_reducible refine Gr.trans ?_ (by assumption) | with_reducible refine Gr.setCell ?_ (by (try simp); (try omega)) _))⟩

set_option maxRecDepth 100000 in
set_option maxHeartbeats 16000000 in
theorem vbr_ok (l0 l1 l2 l3 l4 l5 h0 h1 h2 h3 h4 h5 st br : Int) (A M U : Option Addr) (n c nm cm k d : Nat) (g : Nat → Int) (m : Nat → Bool) (u : Nat → Int) (w : World) (hP : Primes w) (hL : Logs w) (hA : IntsAt w A n g) (hM : BoolsAt w M nm m) (hU : IntsAt w U k u) (hk : k ≤ 9223372036854775807) (hok : voiceOk ⟨l0, l1, l2, l3, l4, l5⟩ ⟨h0, h1, h2, h3, h4, h5⟩ st br = true) (hnm : nm = n) (hn : n ≤ 200) (hl : lenOk g n = true) :
    Calls Tryd.prog 6 #[.agg #[.int .i64 l0, .int .i64 l1, .int .i64 l2, .int .i64 l3, .int .i64 l4, .int .i64 l5, .int .i64 h0, .int .i64 h1, .int .i64 h2, .int .i64 h3, .int .i64 h4, .int .i64 h5, .int .i64 st, .int .i64 br], .slice A n c, .slice M nm cm, .slice U k d] w fun e w' => e = .returned (.bool true) ∧ Gr w w' := by
  subst hnm
  have hV : ∀ W, Gr w W → Calls Tryd.prog 11 #[.agg #[.int .i64 l0, .int .i64 l1, .int .i64 l2, .int .i64 l3, .int .i64 l4, .int .i64 l5, .int .i64 h0, .int .i64 h1, .int .i64 h2, .int .i64 h3, .int .i64 h4, .int .i64 h5, .int .i64 st, .int .i64 br]] W fun e w' => e = .returned (.bool true) ∧ Gr W w' := fun W h => by have k := voiceValid_any l0 l1 l2 l3 l4 l5 h0 h1 h2 h3 h4 h5 st br W (hP.keep h); rwa [hok] at k
  have hF : ∀ W, Gr w W → Calls Tryd.prog 27 #[.slice A nm c, .slice M nm cm] W fun e w' => e = .returned (.bool true) ∧ Gr W w' := fun W h => by have k := rphrase_any A M nm c nm cm g W (hA.keep h); rwa [show phB g nm nm = true by unfold phB; rw [decide_eq_true (show nm = nm ∧ nm ≤ 200 from ⟨rfl, hn⟩), hl]; rfl] at k
  have hb := voiceOk_parts hok
  have hS := fun W (h : Gr w W) => rserves_any br A M U nm c cm k d g m u W (hA.keep h) (hM.keep h) (hU.keep h) hn hl (by omega) (by omega) hk
  have hS2 := fun W (h : Gr w W) U2 L d2 u2 (hI : IntsAt W U2 L u2) (hL : L ≤ 9223372036854775807) => rserves_any br A M U2 nm c cm L d2 g m u2 W (hA.keep h) (hM.keep h) hI hn hl (by omega) (by omega) hL
  have hB := fun W (h : Gr w W) => breaths_ok l0 l1 l2 l3 l4 l5 h0 h1 h2 h3 h4 h5 st br A M nm c nm cm g m W (hP.keep h) (hA.keep h) (hM.keep h) hok rfl hn hl
  have HP := Lib.hid hP; have HL := Lib.hid hL; have HA := Lib.hid hA; have HM := Lib.hid hM; have HU := Lib.hid hU
  have HB := Lib.hid hB; have HV := Lib.hid hV; have HF := Lib.hid hF; have HS := Lib.hid hS; have HS2 := Lib.hid hS2; have HLK := Lib.hid hl
  clear hP hL hA hM hU hB hV hF hS hS2 hok hb hl
  go_enter Tryd.func6, Tryd.ntmps6
  go_wp2_with fail
  (go_at_call 10; with_reducible refine (vhead_any _ (HP.out.keep (by repeat (first | with_reducible exact Gr.refl _ | with_reducible refine Gr.alloc ?_ _ | with_reducible refine Gr.drew ?_ | with_reducible refine Gr.trans ?_ (by assumption) | with_reducible refine Gr.setCell ?_ (by (try simp); (try omega)) _))) (HL.out.keep (by repeat (first | with_reducible exact Gr.refl _ | with_reducible refine Gr.alloc ?_ _ | with_reducible refine Gr.drew ?_ | with_reducible refine Gr.trans ?_ (by assumption) | with_reducible refine Gr.setCell ?_ (by (try simp); (try omega)) _)))).mono ?_; rintro e w' ⟨rfl, hb⟩; have hz := hb.le; obtain ⟨hc, hf⟩ := hb.cells; have hn := hb.cellsN; (try simp only [World.size_alloc] at hc hf hz hn); (try simp only [World.size_setCell] at hc hf hz hn); (try simp only [World.size_drew] at hc hf hz hn))
  go_wp2_with fail
  go_at_call 17
  with_reducible refine (HB.out _ (by repeat (first | with_reducible exact Gr.refl _ | with_reducible refine Gr.alloc ?_ _ | with_reducible refine Gr.drew ?_ | with_reducible refine Gr.trans ?_ (by assumption) | with_reducible refine Gr.setCell ?_ (by (try simp); (try omega)) _))).mono ?_
  rintro e wB hres
  have hgr := breathP_gr hres
  have hz := hgr.le
  obtain ⟨hc, hf⟩ := hgr.cells
  have hnn := hgr.cellsN
  (try simp only [World.size_alloc] at hc hf hz hnn); (try simp only [World.size_setCell] at hc hf hz hnn); (try simp only [World.size_drew] at hc hf hz hnn)
  have hcase : (svB g m br nm u k = false ∧ e = .returned (.tuple #[.slice none 0 0, .int .i64 22])) ∨
      ∃ (L : Nat) (A2 : Option Addr) (c2 : Nat) (u2 : Nat → Int), L ≤ nm ∧ (svB g m br nm u k = true → L ≤ k ∧ ∀ j, j < L → u j ≤ u2 j) ∧ svB g m br nm u2 L = true ∧ e = .returned (.tuple #[.slice A2 L c2, .int .i64 0]) ∧ IntsAt wB A2 L u2 := by
    rcases hres with ⟨l, v, h1, h2, h3, h4, h5⟩ | ⟨pre, h1, h2, h3⟩
    · obtain ⟨A2, c2, rfl, hI⟩ := ints_own (u := fun j => l[j]?.getD 0) h3 (fun j hj => by rw [brCells, List.getElem?_map, List.getElem?_eq_getElem hj]; rfl)
      have hsr := h1.srv HLK.out (u := fun j => l[j]?.getD 0) (fun j y hy => by show l[j]?.getD 0 = y; rw [hy]; rfl)
      obtain ⟨fr, hr, hre⟩ := h1
      have hle := hr.le
      refine Or.inr ⟨l.length, A2, c2, _, by omega, fun hy => ⟨(svB_srv HLK.out hy).len ⟨fr, hr, hre⟩, fun j hj => ?_⟩, srv_svB hsr, h2, hI⟩
      have := ((svB_srv HLK.out hy).latest hr j _ (List.getElem?_eq_getElem hj)).2
      rw [List.getElem?_eq_getElem hj]
      exact this
    · refine Or.inl ⟨?_, h2⟩
      cases e : svB g m br nm u k with
      | false => rfl
      | true => exact ((svB_srv HLK.out e).good h1).elim
  clear hres
  rcases hcase with ⟨hR, rfl⟩ | ⟨L, A2, c2, u2, hLn, hLm, hw2, rfl, hI⟩
  · have hS := HS.out
    rw [hR] at hS
    go_wp2_with fail
    (go_at_call 11; with_reducible refine (HV.out _ (by repeat (first | with_reducible exact Gr.refl _ | with_reducible refine Gr.alloc ?_ _ | with_reducible refine Gr.drew ?_ | with_reducible refine Gr.trans ?_ (by assumption) | with_reducible refine Gr.setCell ?_ (by (try simp); (try omega)) _))).mono ?_; rintro e w' ⟨rfl, hb⟩; have hz := hb.le; obtain ⟨hc, hf⟩ := hb.cells; have hn := hb.cellsN; (try simp only [World.size_alloc] at hc hf hz hn); (try simp only [World.size_setCell] at hc hf hz hn); (try simp only [World.size_drew] at hc hf hz hn))
    go_wp2_with fail
    (go_at_call 27; with_reducible refine (HF.out _ (by repeat (first | with_reducible exact Gr.refl _ | with_reducible refine Gr.alloc ?_ _ | with_reducible refine Gr.drew ?_ | with_reducible refine Gr.trans ?_ (by assumption) | with_reducible refine Gr.setCell ?_ (by (try simp); (try omega)) _))).mono ?_; rintro e w' ⟨rfl, hb⟩; have hz := hb.le; obtain ⟨hc, hf⟩ := hb.cells; have hn := hb.cellsN; (try simp only [World.size_alloc] at hc hf hz hn); (try simp only [World.size_setCell] at hc hf hz hn); (try simp only [World.size_drew] at hc hf hz hn))
    go_wp2_with fail
    (go_at_call 28; with_reducible refine (hS _ (by repeat (first | with_reducible exact Gr.refl _ | with_reducible refine Gr.alloc ?_ _ | with_reducible refine Gr.drew ?_ | with_reducible refine Gr.trans ?_ (by assumption) | with_reducible refine Gr.setCell ?_ (by (try simp); (try omega)) _))).mono ?_; rintro e w' ⟨rfl, hb⟩; have hz := hb.le; obtain ⟨hc, hf⟩ := hb.cells; have hn := hb.cellsN; (try simp only [World.size_alloc] at hc hf hz hn); (try simp only [World.size_setCell] at hc hf hz hn); (try simp only [World.size_drew] at hc hf hz hn))
    go_wp2_with fail
    go_ret
    exact ⟨rfl, (by repeat (first | with_reducible exact Gr.refl _ | with_reducible refine Gr.alloc ?_ _ | with_reducible refine Gr.drew ?_ | with_reducible refine Gr.trans ?_ (by assumption) | with_reducible refine Gr.setCell ?_ (by (try simp); (try omega)) _))⟩
  · have HI := Lib.hid hI
    have HLM := Lib.hid hLm
    have HW3 := Lib.hid hw2
    have HG0 := Lib.hid hgr
    clear hI hLm hw2
    have hS := HS.out
    have hS2 : ∀ W, Gr w W → Gr wB W → Calls Tryd.prog 28 #[.int .i64 br, .slice A nm c, .slice M nm cm, .slice A2 L c2] W fun e w' => e = .returned (.bool true) ∧ Gr W w' := fun W h h' => by
      have k := HS2.out W h A2 L c2 u2 (HI.out.keep h') (by omega)
      rwa [HW3.out] at k
    have HS3 := Lib.hid hS2
    clear hS2
    rcases tf (svB g m br nm u k) with q | q
    all_goals rw [q] at hS
    · obtain ⟨hLk, hle⟩ := HLM.out q
      have HLE := Lib.hid hle
      have HS4 := Lib.hid hS
      clear q hle hS
      by_cases hlt : L < k
      · go_wp2_with fail
        (go_at_call 11; with_reducible refine (HV.out _ (by repeat (first | with_reducible exact Gr.refl _ | with_reducible refine Gr.alloc ?_ _ | with_reducible refine Gr.drew ?_ | with_reducible refine Gr.trans ?_ (by assumption) | with_reducible refine Gr.setCell ?_ (by (try simp); (try omega)) _))).mono ?_; rintro e w' ⟨rfl, hb⟩; have hz := hb.le; obtain ⟨hc, hf⟩ := hb.cells; have hn := hb.cellsN; (try simp only [World.size_alloc] at hc hf hz hn); (try simp only [World.size_setCell] at hc hf hz hn); (try simp only [World.size_drew] at hc hf hz hn))
        go_wp2_with fail
        (go_at_call 27; with_reducible refine (HF.out _ (by repeat (first | with_reducible exact Gr.refl _ | with_reducible refine Gr.alloc ?_ _ | with_reducible refine Gr.drew ?_ | with_reducible refine Gr.trans ?_ (by assumption) | with_reducible refine Gr.setCell ?_ (by (try simp); (try omega)) _))).mono ?_; rintro e w' ⟨rfl, hb⟩; have hz := hb.le; obtain ⟨hc, hf⟩ := hb.cells; have hn := hb.cellsN; (try simp only [World.size_alloc] at hc hf hz hn); (try simp only [World.size_setCell] at hc hf hz hn); (try simp only [World.size_drew] at hc hf hz hn))
        go_wp2_with fail
        (go_at_call 28; with_reducible refine (HS4.out _ (by repeat (first | with_reducible exact Gr.refl _ | with_reducible refine Gr.alloc ?_ _ | with_reducible refine Gr.drew ?_ | with_reducible refine Gr.trans ?_ (by assumption) | with_reducible refine Gr.setCell ?_ (by (try simp); (try omega)) _))).mono ?_; rintro e w' ⟨rfl, hb⟩; have hz := hb.le; obtain ⟨hc, hf⟩ := hb.cells; have hn := hb.cellsN; (try simp only [World.size_alloc] at hc hf hz hn); (try simp only [World.size_setCell] at hc hf hz hn); (try simp only [World.size_drew] at hc hf hz hn))
        go_wp2_with fail
        (go_at_call 28; with_reducible refine (HS3.out _ (by repeat (first | with_reducible exact Gr.refl _ | with_reducible refine Gr.alloc ?_ _ | with_reducible refine Gr.drew ?_ | with_reducible refine Gr.trans ?_ (by assumption) | with_reducible refine Gr.setCell ?_ (by (try simp); (try omega)) _)) (by repeat (first | with_reducible exact Gr.refl _ | with_reducible refine Gr.alloc ?_ _ | with_reducible refine Gr.drew ?_ | with_reducible refine Gr.trans ?_ (by assumption) | with_reducible refine Gr.setCell ?_ (by (try simp); (try omega)) _))).mono ?_; rintro e w' ⟨rfl, hb⟩; have hz := hb.le; obtain ⟨hc, hf⟩ := hb.cells; have hn := hb.cellsN; (try simp only [World.size_alloc] at hc hf hz hn); (try simp only [World.size_setCell] at hc hf hz hn); (try simp only [World.size_drew] at hc hf hz hn))
        go_wp2_with fail
        go_ret
        exact ⟨rfl, (by repeat (first | with_reducible exact Gr.refl _ | with_reducible refine Gr.alloc ?_ _ | with_reducible refine Gr.drew ?_ | with_reducible refine Gr.trans ?_ (by assumption) | with_reducible refine Gr.setCell ?_ (by (try simp); (try omega)) _))⟩
      · obtain rfl : L = k := by omega
        clear hlt hLk
        go_wp2_with fail
        (go_at_call 11; with_reducible refine (HV.out _ (by repeat (first | with_reducible exact Gr.refl _ | with_reducible refine Gr.alloc ?_ _ | with_reducible refine Gr.drew ?_ | with_reducible refine Gr.trans ?_ (by assumption) | with_reducible refine Gr.setCell ?_ (by (try simp); (try omega)) _))).mono ?_; rintro e w' ⟨rfl, hb⟩; have hz := hb.le; obtain ⟨hc, hf⟩ := hb.cells; have hn := hb.cellsN; (try simp only [World.size_alloc] at hc hf hz hn); (try simp only [World.size_setCell] at hc hf hz hn); (try simp only [World.size_drew] at hc hf hz hn))
        go_wp2_with fail
        (go_at_call 27; with_reducible refine (HF.out _ (by repeat (first | with_reducible exact Gr.refl _ | with_reducible refine Gr.alloc ?_ _ | with_reducible refine Gr.drew ?_ | with_reducible refine Gr.trans ?_ (by assumption) | with_reducible refine Gr.setCell ?_ (by (try simp); (try omega)) _))).mono ?_; rintro e w' ⟨rfl, hb⟩; have hz := hb.le; obtain ⟨hc, hf⟩ := hb.cells; have hn := hb.cellsN; (try simp only [World.size_alloc] at hc hf hz hn); (try simp only [World.size_setCell] at hc hf hz hn); (try simp only [World.size_drew] at hc hf hz hn))
        go_wp2_with fail
        (go_at_call 28; with_reducible refine (HS4.out _ (by repeat (first | with_reducible exact Gr.refl _ | with_reducible refine Gr.alloc ?_ _ | with_reducible refine Gr.drew ?_ | with_reducible refine Gr.trans ?_ (by assumption) | with_reducible refine Gr.setCell ?_ (by (try simp); (try omega)) _))).mono ?_; rintro e w' ⟨rfl, hb⟩; have hz := hb.le; obtain ⟨hc, hf⟩ := hb.cells; have hn := hb.cellsN; (try simp only [World.size_alloc] at hc hf hz hn); (try simp only [World.size_setCell] at hc hf hz hn); (try simp only [World.size_drew] at hc hf hz hn))
        go_wp2_with fail
        go_at_call 28
        with_reducible refine (HS3.out _ (by repeat (first | with_reducible exact Gr.refl _ | with_reducible refine Gr.alloc ?_ _ | with_reducible refine Gr.drew ?_ | with_reducible refine Gr.trans ?_ (by assumption) | with_reducible refine Gr.setCell ?_ (by (try simp); (try omega)) _)) (by repeat (first | with_reducible exact Gr.refl _ | with_reducible refine Gr.alloc ?_ _ | with_reducible refine Gr.drew ?_ | with_reducible refine Gr.trans ?_ (by assumption) | with_reducible refine Gr.setCell ?_ (by (try simp); (try omega)) _))).mono ?_
        rintro e w9 ⟨rfl, hb9⟩
        have hg9 : Gr w w9 ∧ Gr wB w9 := ⟨(by repeat (first | with_reducible exact Gr.refl _ | with_reducible refine Gr.alloc ?_ _ | with_reducible refine Gr.drew ?_ | with_reducible refine Gr.trans ?_ (by assumption) | with_reducible refine Gr.setCell ?_ (by (try simp); (try omega)) _)), (by repeat (first | with_reducible exact Gr.refl _ | with_reducible refine Gr.alloc ?_ _ | with_reducible refine Gr.drew ?_ | with_reducible refine Gr.trans ?_ (by assumption) | with_reducible refine Gr.setCell ?_ (by (try simp); (try omega)) _))⟩
        have HG9 := Lib.hid hg9
        clear hg9
        go_wp2_with fail
        clear hb9
        clear hc hf hz hnn hgr HG0
        go_loopw [13] (fun i wr => ∃ j : Nat, j ≤ L ∧ i = .int .i64 j ∧ Gr w9 wr) (fun i _ => L - (intOf i).toNat)
        case atStart => exact ⟨0, Nat.zero_le _, rfl, Gr.refl _⟩
        case round =>
          obtain ⟨j, hj, rfl, hg⟩ := hrel
          have HG := Lib.hid hg
          clear hg
          by_cases hlt : j < L
          · obtain ⟨b, off, rfl, hb, hc⟩ := (HU.out.keep (HG9.out.1.trans HG.out)).one hlt
            obtain ⟨b', off', rfl, hb', hc'⟩ := (HI.out.keep (HG9.out.2.trans HG.out)).one hlt
            have hlj := HLE.out j hlt
            obtain ⟨wp, rfl⟩ : ∃ wp : World, wp = wr := ⟨_, rfl⟩
            have hlt' : (j : Int) < (L : Int) := by omega
            have hj0 : (0 : Int) ≤ (j : Int) := by omega
            by_cases hx : u2 j = u j
            · have hxb : (u2 j == u j) = true := by simp [hx]
              have hxc : (u2 j != u j) = false := by simp [hx]
              clear hx
              go_wp2_with fail
              go_quiet (fail)
              go_wp2_with fail
              go_roundw
              case rel => exact ⟨j + 1, by omega, by go_num, HG.out.trans ((Gr.refl _).drewN _)⟩
              case measure => simp [intOf]; omega
            · have hxb : (u2 j == u j) = false := by simp [hx]
              have hxc : (u2 j != u j) = true := by simp [hx]
              have hxd : decide (u j < u2 j) = true := decide_eq_true (by omega)
              clear hx
              go_wp2_with fail
              go_quiet (fail)
              go_wp2_with fail
              go_quiet (fail)
              go_wp2_with fail
              go_ret
              exact ⟨rfl, HG9.out.1.trans (HG.out.trans (((Gr.refl _).drewN _).drewN _))⟩
          · obtain rfl : L = j := by omega
            obtain ⟨wp, rfl⟩ : ∃ wp : World, wp = wr := ⟨_, rfl⟩
            go_wp2_with fail
            go_ret
            exact ⟨rfl, HG9.out.1.trans HG.out⟩
    · clear q HLM
      go_wp2_with fail
      (go_at_call 11; with_reducible refine (HV.out _ (by repeat (first | with_reducible exact Gr.refl _ | with_reducible refine Gr.alloc ?_ _ | with_reducible refine Gr.drew ?_ | with_reducible refine Gr.trans ?_ (by assumption) | with_reducible refine Gr.setCell ?_ (by (try simp); (try omega)) _))).mono ?_; rintro e w' ⟨rfl, hb⟩; have hz := hb.le; obtain ⟨hc, hf⟩ := hb.cells; have hn := hb.cellsN; (try simp only [World.size_alloc] at hc hf hz hn); (try simp only [World.size_setCell] at hc hf hz hn); (try simp only [World.size_drew] at hc hf hz hn))
      go_wp2_with fail
      (go_at_call 27; with_reducible refine (HF.out _ (by repeat (first | with_reducible exact Gr.refl _ | with_reducible refine Gr.alloc ?_ _ | with_reducible refine Gr.drew ?_ | with_reducible refine Gr.trans ?_ (by assumption) | with_reducible refine Gr.setCell ?_ (by (try simp); (try omega)) _))).mono ?_; rintro e w' ⟨rfl, hb⟩; have hz := hb.le; obtain ⟨hc, hf⟩ := hb.cells; have hn := hb.cellsN; (try simp only [World.size_alloc] at hc hf hz hn); (try simp only [World.size_setCell] at hc hf hz hn); (try simp only [World.size_drew] at hc hf hz hn))
      go_wp2_with fail
      (go_at_call 28; with_reducible refine (hS _ (by repeat (first | with_reducible exact Gr.refl _ | with_reducible refine Gr.alloc ?_ _ | with_reducible refine Gr.drew ?_ | with_reducible refine Gr.trans ?_ (by assumption) | with_reducible refine Gr.setCell ?_ (by (try simp); (try omega)) _))).mono ?_; rintro e w' ⟨rfl, hb⟩; have hz := hb.le; obtain ⟨hc, hf⟩ := hb.cells; have hn := hb.cellsN; (try simp only [World.size_alloc] at hc hf hz hn); (try simp only [World.size_setCell] at hc hf hz hn); (try simp only [World.size_drew] at hc hf hz hn))
      go_wp2_with fail
      (go_at_call 28; with_reducible refine (HS3.out _ (by repeat (first | with_reducible exact Gr.refl _ | with_reducible refine Gr.alloc ?_ _ | with_reducible refine Gr.drew ?_ | with_reducible refine Gr.trans ?_ (by assumption) | with_reducible refine Gr.setCell ?_ (by (try simp); (try omega)) _)) (by repeat (first | with_reducible exact Gr.refl _ | with_reducible refine Gr.alloc ?_ _ | with_reducible refine Gr.drew ?_ | with_reducible refine Gr.trans ?_ (by assumption) | with_reducible refine Gr.setCell ?_ (by (try simp); (try omega)) _))).mono ?_; rintro e w' ⟨rfl, hb⟩; have hz := hb.le; obtain ⟨hc, hf⟩ := hb.cells; have hn := hb.cellsN; (try simp only [World.size_alloc] at hc hf hz hn); (try simp only [World.size_setCell] at hc hf hz hn); (try simp only [World.size_drew] at hc hf hz hn))
      go_wp2_with fail
      go_ret
      exact ⟨rfl, (by repeat (first | with_reducible exact Gr.refl _ | with_reducible refine Gr.alloc ?_ _ | with_reducible refine Gr.drew ?_ | with_reducible refine Gr.trans ?_ (by assumption) | with_reducible refine Gr.setCell ?_ (by (try simp); (try omega)) _))⟩

theorem vbr_law (l0 l1 l2 l3 l4 l5 h0 h1 h2 h3 h4 h5 st br : Int) (A M U : Option Addr) (n c nm cm k d : Nat) (g : Nat → Int) (m : Nat → Bool) (u : Nat → Int) (w : World) (hP : Primes w) (hL : Logs w) (hA : IntsAt w A n g) (hM : BoolsAt w M nm m) (hU : IntsAt w U k u) (hk : k ≤ 9223372036854775807) :
    Calls Tryd.prog 6 #[.agg #[.int .i64 l0, .int .i64 l1, .int .i64 l2, .int .i64 l3, .int .i64 l4, .int .i64 l5, .int .i64 h0, .int .i64 h1, .int .i64 h2, .int .i64 h3, .int .i64 h4, .int .i64 h5, .int .i64 st, .int .i64 br], .slice A n c, .slice M nm cm, .slice U k d] w fun e w' => e = .returned (.bool true) ∧ Gr w w' := by
  rcases tf (voiceOk ⟨l0, l1, l2, l3, l4, l5⟩ ⟨h0, h1, h2, h3, h4, h5⟩ st br) with q1 | q1
  · have hV : ∀ W, Gr w W → Calls Tryd.prog 11 #[.agg #[.int .i64 l0, .int .i64 l1, .int .i64 l2, .int .i64 l3, .int .i64 l4, .int .i64 l5, .int .i64 h0, .int .i64 h1, .int .i64 h2, .int .i64 h3, .int .i64 h4, .int .i64 h5, .int .i64 st, .int .i64 br]] W fun e w' => e = .returned (.bool true) ∧ Gr W w' := fun W h => by have k := voiceValid_any l0 l1 l2 l3 l4 l5 h0 h1 h2 h3 h4 h5 st br W (hP.keep h); rwa [q1] at k
    have hF : phB g n nm = false → ∀ W, Gr w W → Calls Tryd.prog 27 #[.slice A n c, .slice M nm cm] W fun e w' => e = .returned (.bool false) ∧ Gr W w' := fun e W h => by have k := rphrase_any A M n c nm cm g W (hA.keep h); rwa [e] at k
    by_cases q2 : n = nm
    · by_cases q3 : n ≤ 200
      · rcases tf (lenOk g n) with q4 | q4
        · exact vbr_ok l0 l1 l2 l3 l4 l5 h0 h1 h2 h3 h4 h5 st br A M U n c nm cm k d g m u w hP hL hA hM hU hk q1 q2.symm q3 q4
        · exact vbr_bad2 l0 l1 l2 l3 l4 l5 h0 h1 h2 h3 h4 h5 st br A M U n c nm cm k d g m u w hP hL hA hM hU hk (fun W h => breaths_bad4 l0 l1 l2 l3 l4 l5 h0 h1 h2 h3 h4 h5 st br A M n c nm cm g W (hP.keep h) (hA.keep h) q1 q2.symm q3 q4) hV (hF (by unfold phB; rw [q4, Bool.and_false]))
      · exact vbr_bad2 l0 l1 l2 l3 l4 l5 h0 h1 h2 h3 h4 h5 st br A M U n c nm cm k d g m u w hP hL hA hM hU hk (fun W h => breaths_bad3 l0 l1 l2 l3 l4 l5 h0 h1 h2 h3 h4 h5 st br A M n c nm cm W (hP.keep h) q1 q2.symm (by omega)) hV (hF (by unfold phB; rw [decide_eq_false (fun h => q3 h.2), Bool.false_and]))
    · exact vbr_bad2 l0 l1 l2 l3 l4 l5 h0 h1 h2 h3 h4 h5 st br A M U n c nm cm k d g m u w hP hL hA hM hU hk (fun W h => breaths_bad2 l0 l1 l2 l3 l4 l5 h0 h1 h2 h3 h4 h5 st br A M n c nm cm W (hP.keep h) q1 q2) hV (hF (by unfold phB; rw [decide_eq_false (fun h => q2 h.1), Bool.false_and]))
  · exact vbr_bad1 l0 l1 l2 l3 l4 l5 h0 h1 h2 h3 h4 h5 st br A M U n c nm cm k d g m u w hP hL hA hM hU hk (fun W h => breaths_bad1 l0 l1 l2 l3 l4 l5 h0 h1 h2 h3 h4 h5 st br A M n c nm cm W (hP.keep h) q1) (fun W h => by have k := voiceValid_any l0 l1 l2 l3 l4 l5 h0 h1 h2 h3 h4 h5 st br W (hP.keep h); rwa [q1] at k)
end Go.Proofs.YtiogfohjepobkaaDoor
