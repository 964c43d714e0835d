/-
  The law VoiceLonger.
-/
import Derived.Test.YtiogfohjepobkaaDoorBrS
import Derived.Test.YtiogfohjepobkaaDoorCopy
import Derived.Test.YtiogfohjepobkaaDoorVHd
namespace Go.Proofs.YtiogfohjepobkaaDoor
open Go.RowKit

theorem wf_u8 {i : Int} (h : (Lit.int .u8 i).wf = true) : 0 ≤ i ∧ i ≤ 255 := by
  simp only [Lit.wf, Bool.and_eq_true, decide_eq_true_eq] at h
  have a : IntKind.u8.min = 0 := by decide
  have b : IntKind.u8.max = 255 := by decide
  rw [a, b] at h
  exact h
theorem wf_u16 {i : Int} (h : (Lit.int .u16 i).wf = true) : 0 ≤ i ∧ i ≤ 65535 := by
  simp only [Lit.wf, Bool.and_eq_true, decide_eq_true_eq] at h
  have a : IntKind.u16.min = 0 := by decide
  have b : IntKind.u16.max = 65535 := by decide
  rw [a, b] at h
  exact h
/-- Of a call of Breaths: it has a result, and no more than L breaths. -/
def LenLe (L : Nat) (w : World) (e : Ending) (w' : World) : Prop := ∃ (A : Option Addr) (L1 c : Nat), L1 ≤ L ∧ e = .returned (.tuple #[.slice A L1 c, .int .i64 0]) ∧ Gr w w'
theorem lenLe_of {g g' : Nat → Int} {m m' : Nat → Bool} {br br' : Int} {n : Nat} {w w' : World} {e : Ending} {l : List Int} (hok : lenOk g n = true) (h : BrOk g m br n l) (hm : ∀ x, x < n → m x = true → m' x = true)
    (hw : ∀ a t, a ≤ t → t < n → br' < preS g' (t + 1) - preS g' a → br < preS g (t + 1) - preS g a) (hB : BreathP g' m' br' n w e w') : LenLe l.length w e w' := by
  have hs := (h.srv hok (u := fun j => l[j]?.getD 0) (fun j y hy => by show l[j]?.getD 0 = y; rw [hy]; rfl)).more hm hw
  rcases hB with ⟨l', v, h1, h2, h3, h4, h5⟩ | ⟨pre, h1, h2, h3⟩
  · obtain ⟨A2, c2, rfl, _⟩ := ints_own (u := fun j => l'[j]?.getD 0) h3 (fun j hj => by rw [brCells, List.getElem?_map, List.getElem?_eq_getElem hj]; rfl)
    exact ⟨A2, l'.length, c2, hs.len h1, h2, h5⟩
  · exact (hs.good h1).elim
theorem breathP_gr2 {g : Nat → Int} {m : Nat → Bool} {br : Int} {n : Nat} {w w' : World} {e : Ending} (h : BreathP g m br n w e w') : Gr w w' := by
  rcases h with ⟨l, v, h1, h2, h3, h4, h5⟩ | ⟨pre, h1, h2, h3⟩
  · exact h5
  · exact h3
/-- The lengths with another last one. -/
def lastS (g : Nat → Int) (n : Nat) (x : Int) (j : Nat) : Int := if j = n then x else g j
theorem lastS_pre (g : Nat → Int) (n : Nat) (x : Int) : ∀ k, k ≤ n → preS (lastS g n x) k = preS g k := by
  intro k
  induction k with
  | zero => intro _; rfl
  | succ k ih => intro h; simp only [preS, ih (by omega), lastS, if_neg (show ¬ k = n by omega)]
theorem lastS_ok {g : Nat → Int} {n : Nat} {x : Int} (h : lenOk g (n + 1) = true) (hx : 1 ≤ x ∧ x ≤ 100000) : lenOk (lastS g n x) (n + 1) = true := by
  have key : ∀ k, k ≤ n → lenOk (lastS g n x) k = true := by
    intro k
    induction k with
    | zero => intro _; rfl
    | succ k ih =>
      intro hk
      simp only [lenOk, ih (by omega), lastS, if_neg (show ¬ k = n by omega), Bool.true_and, decide_eq_true_eq]
      exact lenOk_at h k (by omega)
  simp only [lenOk, key n (Nat.le_refl n), lastS, if_true, Bool.true_and, decide_eq_true_eq]
  exact hx
/-- One more place to breathe. -/
def openM (m : Nat → Bool) (i : Nat) (j : Nat) : Bool := if j = i then true else m j
theorem bools_rowG {W : World} {g n : Nat} {q : Nat → Value} {m : Nat → Bool} (h : RowG W g n q) (hq : ∀ j, j < n → q j = .bool (m j)) : BoolsAt W (some ⟨g, 0, none⟩) n m :=
  fun _ => ⟨g, 0, rfl, h.lt, fun i hi => by rw [Nat.zero_add, h.cell i hi, hq i hi]⟩
theorem ints_rowG {W : World} {g n : Nat} {q : Nat → Value} {u : Nat → Int} (h : RowG W g n q) (hq : ∀ j, j < n → q j = .int .i64 (u j)) : IntsAt W (some ⟨g, 0, none⟩) n u :=
  fun _ => ⟨g, 0, rfl, h.lt, fun i hi => by rw [Nat.zero_add, h.cell i hi, hq i hi]⟩
theorem bools_news {W : World} {b off n : Nat} {m : Nat → Bool} (h : BoolsAt W (some ⟨b, off, none⟩) n m) : ∀ j u, (cellsQ (fun j => .bool (m j)) n)[j]? = some u → W.cell? ((⟨b, off, none⟩ : Addr).add j) = some u :=
  cellsQ_news (fun j hj => by obtain ⟨b', off', e, _, hc⟩ := h.one hj; cases e; exact hc)
theorem ints_news {W : World} {b off n : Nat} {m : Nat → Int} (h : IntsAt W (some ⟨b, off, none⟩) n m) : ∀ j u, (cellsQ (fun j => .int .i64 (m j)) n)[j]? = some u → W.cell? ((⟨b, off, none⟩ : Addr).add j) = some u :=
  cellsQ_news (fun j hj => by obtain ⟨b', off', e, _, hc⟩ := h.one hj; cases e; exact hc)
theorem infoBool : (Tryd.prog.info? 4).map (fun i => (i.zero, i.size, i.bytes)) = some (some (.bool false), 1, 1) := by kernel_rfl

set_option maxRecDepth 100000 in
set_option maxHeartbeats 16000000 in
theorem vlong_bad (l0 l1 l2 l3 l4 l5 h0 h1 h2 h3 h4 h5 st br : Int) (at_ more : Int) (A M : Option Addr) (n c nm cm : Nat) (g : Nat → Int) (m : Nat → Bool) (w : World) (hP : Primes w) (hL : Logs w) (_hA : IntsAt w A n g) (_hM : BoolsAt w M nm m) (_ha : 0 ≤ at_ ∧ at_ ≤ 255) (_hmo : 0 ≤ more ∧ more ≤ 65535) (x : Int) (hx : x ≠ 0) (hB : ∀ W, Gr w W → Calls Tryd.prog 17 #[.agg #[.int .i64 l0, .int .i64 l1, .int .i64 l2, .int .i64 l3, .int .i64 l4, .int .i64 l5, .int .i64 h0, .int .i64 h1, .int .i64 h2, .int .i64 h3, .int .i64 h4, .int .i64 h5, .int .i64 st, .int .i64 br], .slice A n c, .slice M nm cm] W  fun e w' => e = .returned (.tuple #[.slice none 0 0, .int .i64 x]) ∧ Gr W w') :
    Calls Tryd.prog 7 #[.agg #[.int .i64 l0, .int .i64 l1, .int .i64 l2, .int .i64 l3, .int .i64 l4, .int .i64 l5, .int .i64 h0, .int .i64 h1, .int .i64 h2, .int .i64 h3, .int .i64 h4, .int .i64 h5, .int .i64 st, .int .i64 br], .slice A n c, .slice M nm cm, .int .u8 at_, .int .u16 more] w fun e w' => e = .returned (.bool true) ∧ Gr w w' := by
  have HP := Lib.hid hP; have HL := Lib.hid hL; have HB := Lib.hid hB
  have hx1 : (x == 0) = false := by simp [hx]
  have hx2 : (x != 0) = true := by simp [hx]
  clear hP hL hB hx
  go_enter Tryd.func7, Tryd.ntmps7
  go_wp2_with fail
  (go_at_call 10; with_reducible refine (vhead_any _ (HP.out.keep (by repeat (first | with_reducible exact Gr.refl _ | with_reducible refine Gr.alloc ?_ _ | with_reducible refine Gr.drew ?_ | with_reducible refine Gr.trans ?_ (by assumption) | with_reducible refine Gr.setCell ?_ (by (try simp); (try omega)) _))) (HL.out.keep (by repeat (first | with_reducible exact Gr.refl _ | with_reducible refine Gr.alloc ?_ _ | with_reducible refine Gr.drew ?_ | with_reducible refine Gr.trans ?_ (by assumption) | with_reducible refine Gr.setCell ?_ (by (try simp); (try omega)) _)))).mono ?_; rintro e w' ⟨rfl, hb⟩; have hz := hb.le; obtain ⟨hc, hf⟩ := hb.cells; have hn := hb.cellsN; (try simp only [World.size_alloc] at hc hf hz hn); (try simp only [World.size_setCell] at hc hf hz hn); (try simp only [World.size_drew] at hc hf hz hn))
  go_wp2_with fail
  (go_at_call 17; with_reducible refine (HB.out _ (by repeat (first | with_reducible exact Gr.refl _ | with_reducible refine Gr.alloc ?_ _ | with_reducible refine Gr.drew ?_ | with_reducible refine Gr.trans ?_ (by assumption) | with_reducible refine Gr.setCell ?_ (by (try simp); (try omega)) _))).mono ?_; rintro e w' ⟨rfl, hb⟩; have hz := hb.le; obtain ⟨hc, hf⟩ := hb.cells; have hn := hb.cellsN; (try simp only [World.size_alloc] at hc hf hz hn); (try simp only [World.size_setCell] at hc hf hz hn); (try simp only [World.size_drew] at hc hf hz hn))
  go_wp2_with fail
  go_ret
  exact ⟨rfl, (by repeat (first | with_reducible exact Gr.refl _ | with_reducible refine Gr.alloc ?_ _ | with_reducible refine Gr.drew ?_ | with_reducible refine Gr.trans ?_ (by assumption) | with_reducible refine Gr.setCell ?_ (by (try simp); (try omega)) _))⟩

set_option maxRecDepth 100000 in
set_option maxHeartbeats 16000000 in
theorem vlong_zero (l0 l1 l2 l3 l4 l5 h0 h1 h2 h3 h4 h5 st br : Int) (at_ more : Int) (A M : Option Addr) (c nm cm : Nat) (w : World) (hP : Primes w) (hL : Logs w) (hB : ∀ W, Gr w W → Calls Tryd.prog 17 #[.agg #[.int .i64 l0, .int .i64 l1, .int .i64 l2, .int .i64 l3, .int .i64 l4, .int .i64 l5, .int .i64 h0, .int .i64 h1, .int .i64 h2, .int .i64 h3, .int .i64 h4, .int .i64 h5, .int .i64 st, .int .i64 br], .slice A 0 c, .slice M nm cm] W  fun e w' => e = .returned (.tuple #[.slice none 0 0, .int .i64 0]) ∧ Gr W w') :
    Calls Tryd.prog 7 #[.agg #[.int .i64 l0, .int .i64 l1, .int .i64 l2, .int .i64 l3, .int .i64 l4, .int .i64 l5, .int .i64 h0, .int .i64 h1, .int .i64 h2, .int .i64 h3, .int .i64 h4, .int .i64 h5, .int .i64 st, .int .i64 br], .slice A 0 c, .slice M nm cm, .int .u8 at_, .int .u16 more] w fun e w' => e = .returned (.bool true) ∧ Gr w w' := by
  have HP := Lib.hid hP; have HL := Lib.hid hL; have HB := Lib.hid hB
  clear hP hL hB
  go_enter Tryd.func7, Tryd.ntmps7
  go_wp2_with fail
  (go_at_call 10; with_reducible refine (vhead_any _ (HP.out.keep (by repeat (first | with_reducible exact Gr.refl _ | with_reducible refine Gr.alloc ?_ _ | with_reducible refine Gr.drew ?_ | with_reducible refine Gr.trans ?_ (by assumption) | with_reducible refine Gr.setCell ?_ (by (try simp); (try omega)) _))) (HL.out.keep (by repeat (first | with_reducible exact Gr.refl _ | with_reducible refine Gr.alloc ?_ _ | with_reducible refine Gr.drew ?_ | with_reducible refine Gr.trans ?_ (by assumption) | with_reducible refine Gr.setCell ?_ (by (try simp); (try omega)) _)))).mono ?_; rintro e w' ⟨rfl, hb⟩; have hz := hb.le; obtain ⟨hc, hf⟩ := hb.cells; have hn := hb.cellsN; (try simp only [World.size_alloc] at hc hf hz hn); (try simp only [World.size_setCell] at hc hf hz hn); (try simp only [World.size_drew] at hc hf hz hn))
  go_wp2_with fail
  (go_at_call 17; with_reducible refine (HB.out _ (by repeat (first | with_reducible exact Gr.refl _ | with_reducible refine Gr.alloc ?_ _ | with_reducible refine Gr.drew ?_ | with_reducible refine Gr.trans ?_ (by assumption) | with_reducible refine Gr.setCell ?_ (by (try simp); (try omega)) _))).mono ?_; rintro e w' ⟨rfl, hb⟩; have hz := hb.le; obtain ⟨hc, hf⟩ := hb.cells; have hn := hb.cellsN; (try simp only [World.size_alloc] at hc hf hz hn); (try simp only [World.size_setCell] at hc hf hz hn); (try simp only [World.size_drew] at hc hf hz hn))
  go_wp2_with fail
  go_ret
  exact ⟨rfl, (by repeat (first | with_reducible exact Gr.refl _ | with_reducible refine Gr.alloc ?_ _ | with_reducible refine Gr.drew ?_ | with_reducible refine Gr.trans ?_ (by assumption) | with_reducible refine Gr.setCell ?_ (by (try simp); (try omega)) _))⟩

set_option maxRecDepth 100000 in
set_option maxHeartbeats 16000000 in
theorem vlong_good (l0 l1 l2 l3 l4 l5 h0 h1 h2 h3 h4 h5 st br : Int) (at_ more : Int) (A M : Option Addr) (n c nm cm : Nat) (g : Nat → Int) (m : Nat → Bool) (w : World) (hP : Primes w) (hL : Logs w) (hA : IntsAt w A n g) (hM : BoolsAt w M nm m) (ha : 0 ≤ at_ ∧ at_ ≤ 255) (hmo : 0 ≤ more ∧ more ≤ 65535) (hok : voiceOk ⟨l0, l1, l2, l3, l4, l5⟩ ⟨h0, h1, h2, h3, h4, h5⟩ st br = true) (hnm : nm = n) (hn0 : 0 < n) (hn200 : n ≤ 200) (hl : lenOk g n = true) :
    Calls Tryd.prog 7 #[.agg #[.int .i64 l0, .int .i64 l1, .int .i64 l2, .int .i64 l3, .int .i64 l4, .int .i64 l5, .int .i64 h0, .int .i64 h1, .int .i64 h2, .int .i64 h3, .int .i64 h4, .int .i64 h5, .int .i64 st, .int .i64 br], .slice A n c, .slice M nm cm, .int .u8 at_, .int .u16 more] w fun e w' => e = .returned (.bool true) ∧ Gr w w' := by
  subst hnm
  obtain ⟨ha0, ha1⟩ := ha
  obtain ⟨hmo0, hmo1⟩ := hmo
  obtain ⟨-, -, -, hs0, hs1, hb0, hb1⟩ := voiceOk_parts hok
  have hB := fun W (h : Gr w W) => breaths_ok l0 l1 l2 l3 l4 l5 h0 h1 h2 h3 h4 h5 st br A M nm c nm cm g m W (hP.keep h) (hA.keep h) (hM.keep h) hok rfl hn200 hl
  have HP := Lib.hid hP; have HL := Lib.hid hL; have HA := Lib.hid hA; have HM := Lib.hid hM
  have HB := Lib.hid hB; have HLK := Lib.hid hl; have HOK := Lib.hid hok
  clear hP hL hA hM hB hok hl
  go_enter Tryd.func7, Tryd.ntmps7
  go_wp2_with fail
  (go_at_call 10; with_reducible refine (vhead_any _ (HP.out.keep (by repeat (first | with_reducible exact Gr.refl _ | with_reducible refine Gr.alloc ?_ _ | with_reducible refine Gr.drew ?_ | with_reducible refine Gr.trans ?_ (by assumption) | with_reducible refine Gr.setCell ?_ (by (try simp); (try omega)) _))) (HL.out.keep (by repeat (first | with_reducible exact Gr.refl _ | with_reducible refine Gr.alloc ?_ _ | with_reducible refine Gr.drew ?_ | with_reducible refine Gr.trans ?_ (by assumption) | with_reducible refine Gr.setCell ?_ (by (try simp); (try omega)) _)))).mono ?_; rintro e w' ⟨rfl, hb⟩; have hz := hb.le; obtain ⟨hc, hf⟩ := hb.cells; have hn := hb.cellsN; (try simp only [World.size_alloc] at hc hf hz hn); (try simp only [World.size_setCell] at hc hf hz hn); (try simp only [World.size_drew] at hc hf hz hn))
  go_wp2_with fail
  go_at_call 17
  with_reducible refine (HB.out _ (by repeat (first | with_reducible exact Gr.refl _ | with_reducible refine Gr.alloc ?_ _ | with_reducible refine Gr.drew ?_ | with_reducible refine Gr.trans ?_ (by assumption) | with_reducible refine Gr.setCell ?_ (by (try simp); (try omega)) _))).mono ?_
  rintro e wB hres
  have hgr := breathP_gr2 hres
  have hz := hgr.le
  obtain ⟨hc, hf⟩ := hgr.cells
  have hnn := hgr.cellsN
  (try simp only [World.size_alloc] at hc hf hz hnn); (try simp only [World.size_setCell] at hc hf hz hnn); (try simp only [World.size_drew] at hc hf hz hnn)
  rcases hres with ⟨l, v, k1, k2, k3, k4, k5⟩ | ⟨pre, k1, k2, k3⟩
  · obtain ⟨A2, c2, rfl, -⟩ := ints_own (u := fun j => l[j]?.getD 0) k3 (fun j hj => by rw [brCells, List.getElem?_map, List.getElem?_eq_getElem hj]; rfl)
    have HBO := Lib.hid k1
    subst k2
    clear k1 k3 k4 k5
    generalize hLl : l.length = L at *
    have HLL := Lib.hid hLl
    clear hLl
    have H1 : ∀ W, Gr w W → Calls Tryd.prog 17 #[.agg #[.int .i64 l0, .int .i64 l1, .int .i64 l2, .int .i64 l3, .int .i64 l4, .int .i64 l5, .int .i64 h0, .int .i64 h1, .int .i64 h2, .int .i64 h3, .int .i64 h4, .int .i64 h5, .int .i64 st, .int .i64 (min 100000 (br + more))], .slice A nm c, .slice M nm cm] W  (LenLe L W) := fun W h =>
      (breaths_ok l0 l1 l2 l3 l4 l5 h0 h1 h2 h3 h4 h5 st (min 100000 (br + more)) A M nm c nm cm g m W (HP.out.keep h) (HA.out.keep h) (HM.out.keep h) (by have := HOK.out; simp only [voiceOk, Bool.and_eq_true, decide_eq_true_eq] at this ⊢; exact ⟨this.1, this.2.1, this.2.2.1, by omega⟩) rfl hn200 HLK.out).mono fun e w' hB => by
        rw [← HLL.out]
        exact lenLe_of HLK.out HBO.out (fun _ _ h => h) (fun a t _ _ hlt => by omega) hB
    have HH1 := Lib.hid H1
    clear H1
    obtain ⟨k, hk⟩ : ∃ k : Nat, at_.tmod (nm : Int) = (k : Int) := ⟨(at_.tmod (nm : Int)).toNat, by have := Int.tmod_nonneg (nm : Int) ha0; omega⟩
    have hkn : k < nm := by have := Int.tmod_lt_of_pos at_ (show 0 < (nm : Int) by omega); omega
    have hkw : IntKind.i64.wrap (k : Int) = (k : Int) := IntWalk.i64_in _ ⟨by omega, by omega⟩
    have hk0 : (0 : Int) ≤ (k : Int) := by omega
    have hkn' : (k : Int) < (nm : Int) := by omega
    obtain ⟨n0, hn0e⟩ : ∃ n0 : Nat, nm = n0 + 1 := ⟨nm - 1, by omega⟩
    have hn0n : n0 < nm := by omega
    have hgl := lenOk_at HLK.out n0 hn0n
    have H2 : ∀ W, Gr w W → ∀ A' c', BoolsAt W A' nm (openM m k) → Calls Tryd.prog 17 #[.agg #[.int .i64 l0, .int .i64 l1, .int .i64 l2, .int .i64 l3, .int .i64 l4, .int .i64 l5, .int .i64 h0, .int .i64 h1, .int .i64 h2, .int .i64 h3, .int .i64 h4, .int .i64 h5, .int .i64 st, .int .i64 br], .slice A nm c, .slice A' nm c'] W  (LenLe L W) := fun W h A' c' hA' =>
      (breaths_ok l0 l1 l2 l3 l4 l5 h0 h1 h2 h3 h4 h5 st br A A' nm c nm c' g (openM m k) W (HP.out.keep h) (HA.out.keep h) hA' HOK.out rfl hn200 HLK.out).mono fun e w' hB => by
        rw [← HLL.out]
        exact lenLe_of HLK.out HBO.out (fun x _ hx => by unfold openM; split <;> first | rfl | exact hx) (fun a t _ _ hlt => hlt) hB
    have H3 : ∀ W, Gr w W → ∀ A' c', IntsAt W A' nm (lastS g n0 (max 1 (g n0 - more))) → Calls Tryd.prog 17 #[.agg #[.int .i64 l0, .int .i64 l1, .int .i64 l2, .int .i64 l3, .int .i64 l4, .int .i64 l5, .int .i64 h0, .int .i64 h1, .int .i64 h2, .int .i64 h3, .int .i64 h4, .int .i64 h5, .int .i64 st, .int .i64 br], .slice A' nm c', .slice M nm cm] W  (LenLe L W) := fun W h A' c' hA' =>
      (breaths_ok l0 l1 l2 l3 l4 l5 h0 h1 h2 h3 h4 h5 st br A' M nm c' nm cm (lastS g n0 (max 1 (g n0 - more))) m W (HP.out.keep h) hA' (HM.out.keep h) HOK.out rfl hn200 (by have := HLK.out; rw [hn0e] at this ⊢; exact lastS_ok this (by omega))).mono fun e w' hB => by
        rw [← HLL.out]
        refine lenLe_of HLK.out HBO.out (fun x _ hx => hx) (fun a t hat ht hlt => ?_) hB
        rw [lastS_pre g n0 _ a (by omega)] at hlt
        by_cases et : t + 1 ≤ n0
        · rw [lastS_pre g n0 _ (t + 1) et] at hlt; exact hlt
        · obtain rfl : t = n0 := by omega
          simp only [preS, lastS_pre g t _ t (Nat.le_refl t), lastS, if_true] at hlt ⊢
          omega
    have HH2 := Lib.hid H2; have HH3 := Lib.hid H3
    clear H2 H3
    obtain ⟨hgl0, hgl1⟩ := hgl
    have hwn : IntKind.i64.wrap ((nm : Int) - 1) = (n0 : Int) := (IntWalk.i64_in _ ⟨by omega, by omega⟩).trans (by omega)
    have hwg : IntKind.i64.wrap (g n0 - more) = g n0 - more := IntWalk.i64_in _ ⟨by omega, by omega⟩
    have hn00 : (0 : Int) ≤ (n0 : Int) := by omega
    have hn0n' : (n0 : Int) < (nm : Int) := by omega
    clear hn0e
    obtain ⟨bm, om, rfl, hbm, -⟩ := HM.out.one hn0
    obtain ⟨ba, oa, rfl, hba, -⟩ := HA.out.one hn0
    obtain ⟨i0, hi, hz0, hz1, hz2⟩ := info_parts infoBool
    obtain ⟨i1, hj, hy0, hy1, hy2⟩ := info_parts infoInt
    go_wp2_with fail
    go_at_call 17
    with_reducible refine (HH1.out _ (by repeat (first | with_reducible exact Gr.refl _ | with_reducible refine Gr.alloc ?_ _ | with_reducible refine Gr.drew ?_ | with_reducible refine Gr.trans ?_ (by assumption) | with_reducible refine Gr.setCell ?_ (by (try simp); (try omega)) _))).mono ?_
    rintro e w2 ⟨A3, L3, c3, hL3, rfl, hb⟩
    have hz1' := hb.le
    obtain ⟨hc1, hf1⟩ := hb.cells
    have hn1 := hb.cellsN
    (try simp only [World.size_alloc] at hc1 hf1 hz1' hn1); (try simp only [World.size_setCell] at hc1 hf1 hz1' hn1); (try simp only [World.size_drew] at hc1 hf1 hz1' hn1)
    go_wp2_with (at_builtin; refine wpList_append_grows _ rfl (.tmp 64) (.tmp 65) 28 rfl 4 i0 (.bool false) 1 1 Tryd.underlying28 hi hz0 hz1 hz2 rfl (by decide) _ 0 0 [] rfl (by intro h; cases h) rfl (by intro b hb j u hu; simp at hu) ⟨bm, om, none⟩ nm cm (cellsQ (fun j => .bool (m j)) nm) rfl (by rw [cellsQ_len, Nat.mul_one]) (bools_news (HM.out.keep (by repeat (first | with_reducible exact Gr.refl _ | with_reducible refine Gr.alloc ?_ _ | with_reducible refine Gr.drew ?_ | with_reducible refine Gr.trans ?_ (by assumption) | with_reducible refine Gr.setCell ?_ (by (try simp); (try omega)) _)))) (cellsQ_one (fun _ _ => rfl)) (by omega) (by unfold maxLen; omega) (by omega) ?grow)
    case grow =>
      intro v' w3 hown hgrow
      obtain ⟨g1, cap1, rfl, hg1, HR1, hgr3⟩ := copied (size := 1) hown hgrow hn0 (Nat.mul_one _).symm
      have hz3 := hgr3.le
      obtain ⟨hc3, hf3⟩ := hgr3.cells
      have hn3 := hgr3.cellsN
      (try simp only [World.size_alloc] at hc3 hf3 hz3 hn3 hg1); (try simp only [World.size_setCell] at hc3 hf3 hz3 hn3 hg1)
      have hck := HR1.cell k hkn
      have hfk := HR1.froz k
      have HRR := Lib.hid HR1
      clear HR1
      go_upto_region 10 with fail
      have hg4 : Gr w (w3.setCell ⟨g1, k, none⟩ (.bool true)) := (by repeat (first | with_reducible exact Gr.refl _ | with_reducible refine Gr.alloc ?_ _ | with_reducible refine Gr.drew ?_ | with_reducible refine Gr.trans ?_ (by assumption) | with_reducible refine Gr.setCell ?_ (by (try simp); (try omega)) _))
      have hR4 : BoolsAt (w3.setCell ⟨g1, k, none⟩ (.bool true)) (some ⟨g1, 0, none⟩) nm (openM m k) := bools_rowG (HRR.out.set hkn (.bool true)) (fun j hj => by unfold openM; by_cases e : j = k <;> simp [e])
      have hx4 : (w3.setCell ⟨g1, k, none⟩ (.bool true)).cell? ⟨w.heap.size, 0, none⟩ = some (.int .i64 l0) ∧ (w3.setCell ⟨g1, k, none⟩ (.bool true)).cell? ⟨w.heap.size, 1, none⟩ = some (.int .i64 l1) ∧ (w3.setCell ⟨g1, k, none⟩ (.bool true)).cell? ⟨w.heap.size, 2, none⟩ = some (.int .i64 l2) ∧ (w3.setCell ⟨g1, k, none⟩ (.bool true)).cell? ⟨w.heap.size, 3, none⟩ = some (.int .i64 l3) ∧ (w3.setCell ⟨g1, k, none⟩ (.bool true)).cell? ⟨w.heap.size, 4, none⟩ = some (.int .i64 l4) ∧ (w3.setCell ⟨g1, k, none⟩ (.bool true)).cell? ⟨w.heap.size, 5, none⟩ = some (.int .i64 l5) ∧ (w3.setCell ⟨g1, k, none⟩ (.bool true)).cell? ⟨w.heap.size, 6, none⟩ = some (.int .i64 h0) ∧ (w3.setCell ⟨g1, k, none⟩ (.bool true)).cell? ⟨w.heap.size, 7, none⟩ = some (.int .i64 h1) ∧ (w3.setCell ⟨g1, k, none⟩ (.bool true)).cell? ⟨w.heap.size, 8, none⟩ = some (.int .i64 h2) ∧ (w3.setCell ⟨g1, k, none⟩ (.bool true)).cell? ⟨w.heap.size, 9, none⟩ = some (.int .i64 h3) ∧ (w3.setCell ⟨g1, k, none⟩ (.bool true)).cell? ⟨w.heap.size, 10, none⟩ = some (.int .i64 h4) ∧ (w3.setCell ⟨g1, k, none⟩ (.bool true)).cell? ⟨w.heap.size, 11, none⟩ = some (.int .i64 h5) ∧ (w3.setCell ⟨g1, k, none⟩ (.bool true)).cell? ⟨w.heap.size, 12, none⟩ = some (.int .i64 st) ∧ (w3.setCell ⟨g1, k, none⟩ (.bool true)).cell? ⟨w.heap.size, 13, none⟩ = some (.int .i64 br) := ⟨by simp [go_sem, *], by simp [go_sem, *], by simp [go_sem, *], by simp [go_sem, *], by simp [go_sem, *], by simp [go_sem, *], by simp [go_sem, *], by simp [go_sem, *], by simp [go_sem, *], by simp [go_sem, *], by simp [go_sem, *], by simp [go_sem, *], by simp [go_sem, *], by simp [go_sem, *]⟩
      have hs4 : w.heap.size < (w3.setCell ⟨g1, k, none⟩ (.bool true)).heap.size := by simp; omega
      clear hc hf hz hnn hgr hb hz1' hc1 hf1 hn1 hgrow hown hgr3 hz3 hc3 hf3 hn3 hck hfk HRR
      generalize w3.setCell ⟨g1, k, none⟩ (.bool true) = w4 at *
      have HG4 := Lib.hid hg4; have HR4 := Lib.hid hR4
      clear hg4 hR4
      obtain ⟨x0, x1, x2, x3, x4, x5, x6, x7, x8, x9, x10, x11, x12, x13⟩ := hx4
      go_wp2_with fail
      go_at_call 17
      with_reducible refine (HH2.out _ (HG4.out.trans (by repeat (first | with_reducible exact Gr.refl _ | with_reducible refine Gr.alloc ?_ _ | with_reducible refine Gr.drew ?_ | with_reducible refine Gr.trans ?_ (by assumption) | with_reducible refine Gr.setCell ?_ (by (try simp); (try omega)) _))) _ _ (HR4.out.keep (by repeat (first | with_reducible exact Gr.refl _ | with_reducible refine Gr.alloc ?_ _ | with_reducible refine Gr.drew ?_ | with_reducible refine Gr.trans ?_ (by assumption) | with_reducible refine Gr.setCell ?_ (by (try simp); (try omega)) _)))).mono ?_
      rintro e w5 ⟨A5, L5, c5, hL5, rfl, hb5⟩
      have hz5 := hb5.le
      obtain ⟨hc5, hf5⟩ := hb5.cells
      have hn5 := hb5.cellsN
      go_wp2_with (at_builtin; refine wpList_append_grows _ rfl (.tmp 81) (.tmp 82) 27 rfl 3 i1 (.int .i64 0) 1 8 Tryd.underlying27 hj hy0 hy1 hy2 rfl (by decide) _ 0 0 [] rfl (by intro h; cases h) rfl (by intro b hb j u hu; simp at hu) ⟨ba, oa, none⟩ nm c (cellsQ (fun j => .int .i64 (g j)) nm) rfl (by rw [cellsQ_len, Nat.mul_one]) (ints_news (HA.out.keep (HG4.out.trans (by repeat (first | with_reducible exact Gr.refl _ | with_reducible refine Gr.alloc ?_ _ | with_reducible refine Gr.drew ?_ | with_reducible refine Gr.trans ?_ (by assumption) | with_reducible refine Gr.setCell ?_ (by (try simp); (try omega)) _))))) (cellsQ_one (fun _ _ => rfl)) (by omega) (by unfold maxLen; omega) (by omega) ?grow)
      case grow =>
        intro v' w6 hown hgrow
        obtain ⟨g2, cap2, rfl, hg2, HR6, hgr6⟩ := copied (size := 1) hown hgrow hn0 (Nat.mul_one _).symm
        have hz6 := hgr6.le
        obtain ⟨hc6, hf6⟩ := hgr6.cells
        have hn6 := hgr6.cellsN
        (try simp only [World.size_alloc] at hc6 hf6 hz6 hn6 hg2)
        have hck := HR6.cell n0 hn0n
        have hfk := HR6.froz n0
        have HRR := Lib.hid HR6
        clear HR6
        go_upto_region 13 with fail
        have hg7 : Gr w4 (w6.setCell ⟨g2, n0, none⟩ (.int .i64 (max 1 (g n0 - more)))) := (by repeat (first | with_reducible exact Gr.refl _ | with_reducible refine Gr.alloc ?_ _ | with_reducible refine Gr.drew ?_ | with_reducible refine Gr.trans ?_ (by assumption) | with_reducible refine Gr.setCell ?_ (by (try simp); (try omega)) _))
        have hR7 : IntsAt (w6.setCell ⟨g2, n0, none⟩ (.int .i64 (max 1 (g n0 - more)))) (some ⟨g2, 0, none⟩) nm (lastS g n0 (max 1 (g n0 - more))) := ints_rowG (HRR.out.set hn0n (.int .i64 (max 1 (g n0 - more)))) (fun j hj => by unfold lastS; by_cases e : j = n0 <;> simp [e])
        have hx7 : (w6.setCell ⟨g2, n0, none⟩ (.int .i64 (max 1 (g n0 - more)))).cell? ⟨w.heap.size, 0, none⟩ = some (.int .i64 l0) ∧ (w6.setCell ⟨g2, n0, none⟩ (.int .i64 (max 1 (g n0 - more)))).cell? ⟨w.heap.size, 1, none⟩ = some (.int .i64 l1) ∧ (w6.setCell ⟨g2, n0, none⟩ (.int .i64 (max 1 (g n0 - more)))).cell? ⟨w.heap.size, 2, none⟩ = some (.int .i64 l2) ∧ (w6.setCell ⟨g2, n0, none⟩ (.int .i64 (max 1 (g n0 - more)))).cell? ⟨w.heap.size, 3, none⟩ = some (.int .i64 l3) ∧ (w6.setCell ⟨g2, n0, none⟩ (.int .i64 (max 1 (g n0 - more)))).cell? ⟨w.heap.size, 4, none⟩ = some (.int .i64 l4) ∧ (w6.setCell ⟨g2, n0, none⟩ (.int .i64 (max 1 (g n0 - more)))).cell? ⟨w.heap.size, 5, none⟩ = some (.int .i64 l5) ∧ (w6.setCell ⟨g2, n0, none⟩ (.int .i64 (max 1 (g n0 - more)))).cell? ⟨w.heap.size, 6, none⟩ = some (.int .i64 h0) ∧ (w6.setCell ⟨g2, n0, none⟩ (.int .i64 (max 1 (g n0 - more)))).cell? ⟨w.heap.size, 7, none⟩ = some (.int .i64 h1) ∧ (w6.setCell ⟨g2, n0, none⟩ (.int .i64 (max 1 (g n0 - more)))).cell? ⟨w.heap.size, 8, none⟩ = some (.int .i64 h2) ∧ (w6.setCell ⟨g2, n0, none⟩ (.int .i64 (max 1 (g n0 - more)))).cell? ⟨w.heap.size, 9, none⟩ = some (.int .i64 h3) ∧ (w6.setCell ⟨g2, n0, none⟩ (.int .i64 (max 1 (g n0 - more)))).cell? ⟨w.heap.size, 10, none⟩ = some (.int .i64 h4) ∧ (w6.setCell ⟨g2, n0, none⟩ (.int .i64 (max 1 (g n0 - more)))).cell? ⟨w.heap.size, 11, none⟩ = some (.int .i64 h5) ∧ (w6.setCell ⟨g2, n0, none⟩ (.int .i64 (max 1 (g n0 - more)))).cell? ⟨w.heap.size, 12, none⟩ = some (.int .i64 st) ∧ (w6.setCell ⟨g2, n0, none⟩ (.int .i64 (max 1 (g n0 - more)))).cell? ⟨w.heap.size, 13, none⟩ = some (.int .i64 br) := ⟨by simp [go_sem, *], by simp [go_sem, *], by simp [go_sem, *], by simp [go_sem, *], by simp [go_sem, *], by simp [go_sem, *], by simp [go_sem, *], by simp [go_sem, *], by simp [go_sem, *], by simp [go_sem, *], by simp [go_sem, *], by simp [go_sem, *], by simp [go_sem, *], by simp [go_sem, *]⟩
        have hs7 : w.heap.size < (w6.setCell ⟨g2, n0, none⟩ (.int .i64 (max 1 (g n0 - more)))).heap.size := by simp; omega
        clear hb5 hz5 hc5 hf5 hn5 hgrow hown hgr6 hz6 hc6 hf6 hn6 hck hfk HRR x0 x1 x2 x3 x4 x5 x6 x7 x8 x9 x10 x11 x12 x13
        generalize w6.setCell ⟨g2, n0, none⟩ (.int .i64 (max 1 (g n0 - more))) = w7 at *
        have HG7 := Lib.hid hg7; have HR7 := Lib.hid hR7
        clear hg7 hR7
        obtain ⟨x0, x1, x2, x3, x4, x5, x6, x7, x8, x9, x10, x11, x12, x13⟩ := hx7
        have d3 : decide ((L3 : Int) ≤ (L : Int)) = true := decide_eq_true (by omega)
        have d5 : decide ((L5 : Int) ≤ (L : Int)) = true := decide_eq_true (by omega)
        go_wp2_with fail
        go_at_call 17
        with_reducible refine (HH3.out _ (HG4.out.trans (HG7.out.trans (by repeat (first | with_reducible exact Gr.refl _ | with_reducible refine Gr.alloc ?_ _ | with_reducible refine Gr.drew ?_ | with_reducible refine Gr.trans ?_ (by assumption) | with_reducible refine Gr.setCell ?_ (by (try simp); (try omega)) _)))) _ _ (HR7.out.keep (by repeat (first | with_reducible exact Gr.refl _ | with_reducible refine Gr.alloc ?_ _ | with_reducible refine Gr.drew ?_ | with_reducible refine Gr.trans ?_ (by assumption) | with_reducible refine Gr.setCell ?_ (by (try simp); (try omega)) _)))).mono ?_
        rintro e w8 ⟨A8, L8, c8, hL8, rfl, hb8⟩
        have d8 : decide ((L8 : Int) ≤ (L : Int)) = true := decide_eq_true (by omega)
        go_wp2_with fail
        go_ret
        exact ⟨rfl, HG4.out.trans (HG7.out.trans (by repeat (first | with_reducible exact Gr.refl _ | with_reducible refine Gr.alloc ?_ _ | with_reducible refine Gr.drew ?_ | with_reducible refine Gr.trans ?_ (by assumption) | with_reducible refine Gr.setCell ?_ (by (try simp); (try omega)) _)))⟩
  · subst k2
    clear k1 k3
    go_wp2_with fail
    go_ret
    exact ⟨rfl, (by repeat (first | with_reducible exact Gr.refl _ | with_reducible refine Gr.alloc ?_ _ | with_reducible refine Gr.drew ?_ | with_reducible refine Gr.trans ?_ (by assumption) | with_reducible refine Gr.setCell ?_ (by (try simp); (try omega)) _))⟩
theorem vlong_law (l0 l1 l2 l3 l4 l5 h0 h1 h2 h3 h4 h5 st br : Int) (at_ more : Int) (A M : Option Addr) (n c nm cm : Nat) (g : Nat → Int) (m : Nat → Bool) (w : World) (hP : Primes w) (hL : Logs w) (hA : IntsAt w A n g) (hM : BoolsAt w M nm m) (ha : 0 ≤ at_ ∧ at_ ≤ 255) (hmo : 0 ≤ more ∧ more ≤ 65535) :
    Calls Tryd.prog 7 #[.agg #[.int .i64 l0, .int .i64 l1, .int .i64 l2, .int .i64 l3, .int .i64 l4, .int .i64 l5, .int .i64 h0, .int .i64 h1, .int .i64 h2, .int .i64 h3, .int .i64 h4, .int .i64 h5, .int .i64 st, .int .i64 br], .slice A n c, .slice M nm cm, .int .u8 at_, .int .u16 more] w fun e w' => e = .returned (.bool true) ∧ Gr w w' := by
  rcases tf (voiceOk ⟨l0, l1, l2, l3, l4, l5⟩ ⟨h0, h1, h2, h3, h4, h5⟩ st br) with q1 | q1
  · by_cases q2 : n = nm
    · by_cases q3 : n ≤ 200
      · rcases tf (lenOk g n) with q4 | q4
        · by_cases q5 : n = 0
          · subst q5
            refine vlong_zero l0 l1 l2 l3 l4 l5 h0 h1 h2 h3 h4 h5 st br at_ more A M c nm cm w hP hL (fun W h => ?_)
            refine (breaths_ok l0 l1 l2 l3 l4 l5 h0 h1 h2 h3 h4 h5 st br A M 0 c nm cm g m W (hP.keep h) (hA.keep h) (by subst q2; exact hM.keep h) q1 q2.symm q3 q4).mono fun e w' hB => ?_
            rcases hB with ⟨l, v, k1, k2, k3, k4, k5⟩ | ⟨pre, k1, k2, k3⟩
            · obtain ⟨fr, hr, _⟩ := k1
              have := hr.le
              have hl0 : l = [] := List.eq_nil_of_length_eq_zero (by omega)
              rw [k4.2 hl0] at k2
              exact ⟨k2, k5⟩
            · obtain ⟨fr, t, hr, hre, ht, _⟩ := k1
              omega
          · exact vlong_good l0 l1 l2 l3 l4 l5 h0 h1 h2 h3 h4 h5 st br at_ more A M n c nm cm g m w hP hL hA hM ha hmo q1 q2.symm (by omega) q3 q4
        · exact vlong_bad l0 l1 l2 l3 l4 l5 h0 h1 h2 h3 h4 h5 st br at_ more A M n c nm cm g m w hP hL hA hM ha hmo 1 (by omega) (fun W h => breaths_bad4 l0 l1 l2 l3 l4 l5 h0 h1 h2 h3 h4 h5 st br A M n c nm cm g W (hP.keep h) (hA.keep h) q1 q2.symm q3 q4)
      · exact vlong_bad l0 l1 l2 l3 l4 l5 h0 h1 h2 h3 h4 h5 st br at_ more A M n c nm cm g m w hP hL hA hM ha hmo 1 (by omega) (fun W h => breaths_bad3 l0 l1 l2 l3 l4 l5 h0 h1 h2 h3 h4 h5 st br A M n c nm cm W (hP.keep h) q1 q2.symm (by omega))
    · exact vlong_bad l0 l1 l2 l3 l4 l5 h0 h1 h2 h3 h4 h5 st br at_ more A M n c nm cm g m w hP hL hA hM ha hmo 1 (by omega) (fun W h => breaths_bad2 l0 l1 l2 l3 l4 l5 h0 h1 h2 h3 h4 h5 st br A M n c nm cm W (hP.keep h) q1 q2)
  · exact vlong_bad l0 l1 l2 l3 l4 l5 h0 h1 h2 h3 h4 h5 st br at_ more A M n c nm cm g m w hP hL hA hM ha hmo 1 (by omega) (fun W h => breaths_bad1 l0 l1 l2 l3 l4 l5 h0 h1 h2 h3 h4 h5 st br A M n c nm cm W (hP.keep h) q1)
end Go.Proofs.YtiogfohjepobkaaDoor
