/-
  pitch.multiply: the product of a list of natural numbers.
-/
import Derived.Test.YtelhmdhhabgihaaGreatDoorNat5
namespace Go.Proofs.YtelhmdhhabgihaaGreatDoor
open Go.RowKit

/-- The product of the first n numbers. -/
def prodF (f : Nat → Int) : Nat → Int
  | 0 => 1
  | n + 1 => prodF f n * f n
/-- A value is a slice of n natural numbers, f. -/
def NatsAt (w : World) (v : Value) (n : Nat) (f : Nat → Int) : Prop :=
  (v = .slice none 0 0 ∧ n = 0) ∨ ∃ g c, v = .slice (some ⟨g, 0, none⟩) n c ∧ g < w.heap.size ∧ ∀ i, i < n → ∃ x, w.cell? ⟨g, i, none⟩ = some x ∧ IsNat w x (f i)
def MulRel (f : Nat → Int) (w : World) (cv : Value) (k : Nat) (wr : World) : Prop :=
  ∃ b n c u, cv = .slice (some ⟨b, 0, none⟩) n c ∧ Lay wr b n c u (prodF f k) ∧ Gr w wr

set_option maxRecDepth 100000 in
set_option maxHeartbeats 2000000 in
theorem multiply_nil (w : World) :
    Calls Tryz.prog 57 #[.slice none 0 0] w (NatRes 1 w) := by
  go_enter Tryz.func57, Tryz.ntmps57
  go_wp2_with (go_at_call 56; (with_reducible refine (natMake_any 1 _ (by omega) (by omega)).mono ?_); rintro e w2 ⟨v, rfl, hv, hg⟩)
  go_loopw [3, 9] (fun v i wr => IsNat wr v 1 ∧ Gr w wr ∧ i = .int .i64 0) (fun _ _ _ => 0)
  case atStart => exact ⟨hv, hg, rfl⟩
  case round =>
    obtain ⟨hv1, hg1, rfl⟩ := hrel
    have HV := Lib.hid hv1; have HG := Lib.hid hg1
    clear hv1 hg1 hv hg
    go_wp2
    go_ret
    exact ⟨_, rfl, HV.out, HG.out⟩

set_option maxRecDepth 100000 in
set_option maxHeartbeats 4000000 in
theorem multiply_row (g n c : Nat) (f : Nat → Int) (w : World) (hn : n ≤ 100) (hg : g < w.heap.size) (hf : ∀ i, i < n → ∃ x, w.cell? ⟨g, i, none⟩ = some x ∧ IsNat w x (f i)) (hlim : ∀ k, k ≤ n → prodF f k < BB ^ 640) :
    Calls Tryz.prog 57 #[.slice (some ⟨g, 0, none⟩) n c] w (NatRes (prodF f n) w) := by
  have HF := Lib.hid hf; have HL := Lib.hid hlim
  clear hf hlim
  go_enter Tryz.func57, Tryz.ntmps57
  go_wp2_with (go_at_call 56; (with_reducible refine (natMake_any 1 _ (by omega) (by omega)).mono ?_); rintro e w2 ⟨v, rfl, ⟨b, n', c', u, rfl, hl⟩, hg2⟩)
  have HR : Hid (MulRel f w (.slice (some ⟨b, 0, none⟩) n' c') 0 w2) := Lib.hid ⟨b, n', c', u, rfl, hl, hg2⟩
  clear hl hg2
  go_loopw [3, 9] (fun v i wr => ∃ k : Nat, k ≤ n ∧ i = .int .i64 k ∧ MulRel f w v k wr) (fun _ i _ => n - (intOf i).toNat)
  case atStart => exact ⟨0, Nat.zero_le _, rfl, HR.out⟩
  case round =>
    obtain ⟨k, hk, rfl, b, n', c', u, rfl, hl, hgr⟩ := hrel
    have HL1 := Lib.hid hl; have HG1 := Lib.hid hgr
    clear HR hl hgr
    by_cases hlt : k < n
    · obtain ⟨x, hx, b1, n1, c1, u1, rfl, hl1⟩ := HF.out k hlt
      have hx := (Below.cell (p := ⟨g, k, none⟩) HG1.out hg).trans hx
      have HM := Lib.hid (natMul_lay b n' c' u _ b1 n1 c1 u1 _ _ HL1.out (hl1.keep HG1.out) (HL.out (k + 1) hlt))
      clear hl1
      go_wp2_with (go_at_call 78; (with_reducible refine HM.out.mono ?_); rintro e w3 ⟨v3, rfl, ⟨b3, n3, c3, u3, rfl, hl3⟩, hg3⟩)
      have HR : Hid (MulRel f w (.slice (some ⟨b3, 0, none⟩) n3 c3) (k + 1) w3) := Lib.hid ⟨b3, n3, c3, u3, rfl, hl3, HG1.out.trans hg3⟩
      clear hl3 hg3 HM
      go_roundw
      case rel => exact ⟨k + 1, by omega, by go_num, HR.out⟩
      case measure => simp [intOf]; omega
    · obtain rfl : k = n := by omega
      go_wp2
      go_ret
      exact ⟨_, rfl, ⟨b, n', c', u, rfl, HL1.out⟩, HG1.out⟩
theorem multiply_any (v : Value) (n : Nat) (f : Nat → Int) (w : World) (hv : NatsAt w v n f) (hn : n ≤ 100) (hlim : ∀ k, k ≤ n → prodF f k < BB ^ 640) :
    Calls Tryz.prog 57 #[v] w (NatRes (prodF f n) w) := by
  rcases hv with ⟨rfl, rfl⟩ | ⟨g, c, rfl, hg, hf⟩
  · exact multiply_nil w
  · exact multiply_row g n c f w hn hg hf hlim
end Go.Proofs.YtelhmdhhabgihaaGreatDoor
