/-
  The examples of chapter 12 (plain facts).
-/
import Derived.Test.YtohalcookjbaaaaDoorNkSm
import Derived.Test.YtohalcookjbaaaaDoorNkSe
namespace Go.Proofs.YtohalcookjbaaaaDoor
open Go.RowKit

def neckO : Nat → Nat → Int
  | 1, 0 => -12
  | 1, 1 => 12
  | _, _ => 0
def neckQ : Nat → Nat → Int
  | 0, 0 => -36
  | 0, 1 => 24
  | 1, 0 => -24
  | 1, 2 => 12
  | 2, 0 => -12
  | 2, 1 => 12
  | _, _ => 0
def hv1 : Nat → Nat → Int
  | 1, 0 => -1
  | 1, 1 => 1
  | _, _ => 0
def hv2 : Nat → Nat → Int
  | 0, 0 => -3
  | 0, 1 => 2
  | 1, 0 => -3
  | 1, 1 => 1
  | 1, 2 => 1
  | _, _ => 0
def hv3 : Nat → Nat → Int
  | 0, 0 => -3
  | 0, 1 => 2
  | 1, 0 => -2
  | 1, 1 => 2
  | _, _ => 0
def hv4 : Nat → Nat → Int
  | 0, 0 => 1
  | _, _ => 0
theorem n_ok : neckB 2 neckO 3 neckQ 1 0 = true := by decide +kernel
theorem n_find : findL 2 neckO 3 neckQ 1 0 ⟨-1, 1, 0, 0, 0, 0⟩ = [(0, 3), (1, 0)] := by decide +kernel
theorem n_findE : findE 2 neckO 3 neckQ 1 0 ⟨-1, 1, 0, 0, 0, 0⟩ = 0 := by decide +kernel
theorem n_hv1E : chordE 2 neckO 3 neckQ 1 0 hv1 2 = 0 := by decide +kernel
theorem n_hv1L : chordL 2 neckO 3 neckQ 1 0 hv1 2 = [(0, 0), (1, 0)] := by decide +kernel
theorem n_hv2E : chordE 2 neckO 3 neckQ 1 0 hv2 2 = 0 := by decide +kernel
theorem n_hv2L : chordL 2 neckO 3 neckQ 1 0 hv2 2 = [(0, 1), (1, 2)] := by decide +kernel
theorem n_hv3E : chordE 2 neckO 3 neckQ 1 0 hv3 2 = 20 := by decide +kernel
theorem n_hv3L : chordL 2 neckO 3 neckQ 1 0 hv3 2 = [] := by decide +kernel
theorem n_hv4E : chordE 2 neckO 3 neckQ 1 0 hv4 1 = 4 := by decide +kernel
theorem n_hv4L : chordL 2 neckO 3 neckQ 1 0 hv4 1 = [] := by decide +kernel
end Go.Proofs.YtohalcookjbaaaaDoor
