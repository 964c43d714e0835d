/-
  package voice: lengths of notes, places to breathe, runs on one breath: plain words; the test on lengths.
-/
import Derived.Test.YtiogfohjepobkaaDoorRowsAt
import Derived.Test.YtiogfohjepobkaaDoorSix
namespace Go.Proofs.YtiogfohjepobkaaDoor
open Go.RowKit

/-- n integers lie behind an address. -/
def IntsAt (w : World) (A : Option Addr) (n : Nat) (g : Nat → Int) : Prop :=
  0 < n → ∃ b off, A = some ⟨b, off, none⟩ ∧ b < w.heap.size ∧ ∀ i, i < n → w.cell? ⟨b, off + i, none⟩ = some (.int .i64 (g i))
theorem IntsAt.keep {w w' : World} {n : Nat} {A : Option Addr} {g : Nat → Int} (h : IntsAt w A n g) (k : Gr w w') : IntsAt w' A n g := by
  intro hn
  obtain ⟨b, off, rfl, hb, hc⟩ := h hn
  exact ⟨b, off, rfl, Nat.lt_of_lt_of_le hb k.le, fun i hi => (Below.cell (p := ⟨b, off + i, none⟩) k hb).trans (hc i hi)⟩
theorem IntsAt.one {w : World} {n k : Nat} {A : Option Addr} {g : Nat → Int} (h : IntsAt w A n g) (hk : k < n) : ∃ b off, A = some ⟨b, off, none⟩ ∧ b < w.heap.size ∧ w.cell? ⟨b, off + k, none⟩ = some (.int .i64 (g k)) := by
  obtain ⟨b, off, e, hb, hc⟩ := h (by omega)
  exact ⟨b, off, e, hb, hc k hk⟩
theorem IntsAt.nil (w : World) (A : Option Addr) (g : Nat → Int) : IntsAt w A 0 g := fun h => absurd h (by omega)
/-- n Bools lie behind an address. -/
def BoolsAt (w : World) (A : Option Addr) (n : Nat) (m : Nat → Bool) : Prop :=
  0 < n → ∃ b off, A = some ⟨b, off, none⟩ ∧ b < w.heap.size ∧ ∀ i, i < n → w.cell? ⟨b, off + i, none⟩ = some (.bool (m i))
theorem BoolsAt.keep {w w' : World} {n : Nat} {A : Option Addr} {m : Nat → Bool} (h : BoolsAt w A n m) (k : Gr w w') : BoolsAt w' A n m := by
  intro hn
  obtain ⟨b, off, rfl, hb, hc⟩ := h hn
  exact ⟨b, off, rfl, Nat.lt_of_lt_of_le hb k.le, fun i hi => (Below.cell (p := ⟨b, off + i, none⟩) k hb).trans (hc i hi)⟩
theorem BoolsAt.one {w : World} {n k : Nat} {A : Option Addr} {m : Nat → Bool} (h : BoolsAt w A n m) (hk : k < n) : ∃ b off, A = some ⟨b, off, none⟩ ∧ b < w.heap.size ∧ w.cell? ⟨b, off + k, none⟩ = some (.bool (m k)) := by
  obtain ⟨b, off, e, hb, hc⟩ := h (by omega)
  exact ⟨b, off, e, hb, hc k hk⟩
theorem BoolsAt.nil (w : World) (A : Option Addr) (m : Nat → Bool) : BoolsAt w A 0 m := fun h => absurd h (by omega)

/-- The first j lengths are valid. -/
def lenOk (g : Nat → Int) : Nat → Bool
  | 0 => true
  | j + 1 => lenOk g j && decide (1 ≤ g j ∧ g j ≤ 100000)
theorem lenOk_at {g : Nat → Int} {n : Nat} (h : lenOk g n = true) (j : Nat) (hj : j < n) : 1 ≤ g j ∧ g j ≤ 100000 := by
  induction n with
  | zero => omega
  | succ n ih =>
    simp only [lenOk, Bool.and_eq_true, decide_eq_true_eq] at h
    by_cases e : j = n
    · subst e; exact h.2
    · exact ih h.1 (by omega)
/-- The sum of the first k lengths. -/
def preS (g : Nat → Int) : Nat → Int
  | 0 => 0
  | k + 1 => preS g k + g k
/-- The last place below t, from `fr` on, at which the singer may breathe; or -1. -/
def lastM (m : Nat → Bool) (fr : Nat) : Nat → Int
  | 0 => -1
  | t + 1 => if fr ≤ t ∧ m t = true then (t : Int) else lastM m fr t
/-- One breath that begins at `fr` reaches t. -/
def Reach (g : Nat → Int) (br : Int) (n fr t : Nat) : Prop := fr ≤ t ∧ t ≤ n ∧ preS g t - preS g fr ≤ br ∧ (t < n → br < preS g (t + 1) - preS g fr)
/-- The runs that have been sung: where the singer has breathed, and where the next run begins. -/
inductive Runs (g : Nat → Int) (m : Nat → Bool) (br : Int) (n : Nat) : List Int → Nat → Prop
  | nil : Runs g m br n [] 0
  | snoc {pre : List Int} {fr t : Nat} {l : Int} : Runs g m br n pre fr → Reach g br n fr t → t < n → lastM m fr t = l → 0 ≤ l → Runs g m br n (pre ++ [l]) (l.toNat + 1)
/-- The whole phrase has been sung, with these breaths. -/
def BrOk (g : Nat → Int) (m : Nat → Bool) (br : Int) (n : Nat) (l : List Int) : Prop := ∃ fr, Runs g m br n l fr ∧ Reach g br n fr n
/-- A breath does not suffice. -/
def BrBad (g : Nat → Int) (m : Nat → Bool) (br : Int) (n : Nat) (pre : List Int) : Prop := ∃ fr t, Runs g m br n pre fr ∧ Reach g br n fr t ∧ t < n ∧ lastM m fr t = -1
theorem lastM_lt (m : Nat → Bool) (fr t : Nat) : -1 ≤ lastM m fr t ∧ lastM m fr t < t ∧ (0 ≤ lastM m fr t → (fr : Int) ≤ lastM m fr t) := by
  induction t with
  | zero => simp [lastM]
  | succ t ih =>
    simp only [lastM]
    split <;> omega
theorem Runs.le {g : Nat → Int} {m : Nat → Bool} {br : Int} {n : Nat} {pre : List Int} {fr : Nat} (h : Runs g m br n pre fr) : pre.length ≤ fr ∧ fr ≤ n := by
  induction h with
  | nil => exact ⟨Nat.zero_le _, Nat.zero_le _⟩
  | @snoc pre fr t l h1 h2 h3 h4 h5 ih =>
    have := lastM_lt m fr t
    rw [h4] at this
    rw [List.length_append]
    simp only [List.length_cons, List.length_nil]
    omega

set_option maxHeartbeats 2000000 in
theorem wrongLen (x : Int) (w : World) : Calls Tryd.prog 36 #[.int .i64 x] w fun e w' => e = .returned (.bool (!decide (1 ≤ x ∧ x ≤ 100000))) ∧ w = w' := by
  rcases (by omega : x < 1 ∨ (1 ≤ x ∧ x ≤ 100000) ∨ (1 ≤ x ∧ 100000 < x)) with h | ⟨h, h'⟩ | ⟨h, h'⟩
  · rw [show decide (1 ≤ x ∧ x ≤ 100000) = false by simp; omega]
    go_enter Tryd.func36, Tryd.ntmps36
    go_wp2
    go_ret
    exact ⟨ret_bool (by first | rfl | (simp; done) | (simp; omega)), rfl⟩
  · rw [show decide (1 ≤ x ∧ x ≤ 100000) = true by simp; omega]
    go_enter Tryd.func36, Tryd.ntmps36
    go_wp2
    go_ret
    exact ⟨ret_bool (by first | rfl | (simp; done) | (simp; omega)), rfl⟩
  · rw [show decide (1 ≤ x ∧ x ≤ 100000) = false by simp; omega]
    go_enter Tryd.func36, Tryd.ntmps36
    go_wp2
    go_ret
    exact ⟨ret_bool (by first | rfl | (simp; done) | (simp; omega)), rfl⟩

/-- Where the first wrong length lies. -/
def IdxP (g : Nat → Int) (n : Nat) (w : World) (e : Ending) (w' : World) : Prop := ∃ k : Int, e = .returned (.int .i64 k) ∧ ((lenOk g n = true ∧ k = -1) ∨ (lenOk g n = false ∧ 0 ≤ k)) ∧ w = w'
theorem lenOk_no {g : Nat → Int} {j n : Nat} (hj : j < n) (h : ¬ (1 ≤ g j ∧ g j ≤ 100000)) : lenOk g n = false := by
  cases e : lenOk g n with
  | false => rfl
  | true => exact (h (lenOk_at e j hj)).elim

set_option maxRecDepth 100000 in
set_option maxHeartbeats 4000000 in
theorem idxWrong (A : Option Addr) (n c : Nat) (g : Nat → Int) (w : World) (hA : IntsAt w A n g) (hn : n ≤ 200) : Calls Tryd.prog 44 #[.slice A n c, .func (.func 36) #[] #[]] w (IdxP g n w) := by
  have HA := Lib.hid hA
  clear hA
  go_enter Tryd.func44, Tryd.ntmps44
  go_wp2
  go_loop [8] (fun i => ∃ j : Nat, j ≤ n ∧ i = .int .i64 j ∧ lenOk g j = true) (fun i => n - (intOf i).toNat)
  case atStart => exact ⟨0, Nat.zero_le _, rfl, rfl⟩
  case round =>
    obtain ⟨j, hj, rfl, hok⟩ := hrel
    have HOK := Lib.hid hok
    clear hok
    by_cases hlt : j < n
    · obtain ⟨b, off, rfl, hb, hc⟩ := HA.out.one hlt
      by_cases hx : 1 ≤ g j ∧ g j ≤ 100000
      · have hW := fun W => wrongLen (g j) W
        have HS : Hid (lenOk g (j + 1) = true) := Lib.hid (by simp [lenOk, HOK.out, hx])
        rw [show decide (1 ≤ g j ∧ g j ≤ 100000) = true from decide_eq_true hx] at hW
        have HW := Lib.hid hW
        clear hW hx
        go_wp2_with (go_at_call 36; refine (HW.out _).mono ?_; rintro e w' ⟨rfl, rfl⟩)
        go_round
        case rel => exact ⟨j + 1, by omega, by go_num, HS.out⟩
        case measure => simp [intOf]; omega
      · have hW := fun W => wrongLen (g j) W
        have HN := Lib.hid (lenOk_no hlt hx)
        rw [show decide (1 ≤ g j ∧ g j ≤ 100000) = false from decide_eq_false hx] at hW
        have HW := Lib.hid hW
        clear hW hx
        go_wp2_with (go_at_call 36; refine (HW.out _).mono ?_; rintro e w' ⟨rfl, rfl⟩)
        go_ret
        exact ⟨_, rfl, Or.inr ⟨HN.out, by omega⟩, rfl⟩
    · obtain rfl : n = j := by omega
      go_wp2
      go_ret
      exact ⟨-1, rfl, Or.inl ⟨HOK.out, rfl⟩, rfl⟩

set_option maxHeartbeats 2000000 in
theorem anyWrong (A : Option Addr) (n c : Nat) (g : Nat → Int) (w : World) (hA : IntsAt w A n g) (hn : n ≤ 200) : Calls Tryd.prog 37 #[.slice A n c, .func (.func 36) #[] #[]] w fun e w' => e = .returned (.bool (!lenOk g n)) ∧ w = w' := by
  have HC := Lib.hid (idxWrong A n c g w hA hn)
  clear hA
  go_enter Tryd.func37, Tryd.ntmps37
  go_wp2_with fail
  go_at_call 44
  refine HC.out.mono ?_
  rintro e w' ⟨k, rfl, hk, rfl⟩
  rcases hk with ⟨h, rfl⟩ | ⟨h, hk⟩
  · have H := Lib.hid h
    clear h
    go_wp2_with fail
    go_ret
    exact ⟨ret_bool (by rw [H.out]; rfl), rfl⟩
  · have H := Lib.hid h
    clear h
    go_wp2_with fail
    go_ret
    exact ⟨ret_bool (by rw [H.out]; first | (simp; done) | (simp; omega)), rfl⟩
end Go.Proofs.YtiogfohjepobkaaDoor
