/-
  Natural numbers: the exported operations (guarded by a deferred call), where no bound is passed.
-/
import Derived.Test.YtelhmdhhabgihaaGreatDoorNat4
import Derived.Defers
import Derived.Recover
import Derived.Laws.Pointers
namespace Go.Proofs.YtelhmdhhabgihaaGreatDoor
open Go.RowKit

theorem caught_idle (p q : Addr) (w : World) :
    CallsD Tryz.prog 90 #[.pointer (some p), .pointer (some q)] .returning w fun e u' w' => e = .returned (.tuple #[]) ∧ u' = .returning ∧ w' = w := by
  refine callsD_of_wpS Tryz.func90 rfl fun c₀ cs hu => ?_
  apply wpS_seq
  apply wpS_region
  simp [wpOpsS, go_sem, recoverD, hu, Tryz.ntmps90, Exit.thenS]
  apply wpS_seq
  apply wpS_region
  simp [wpOpsS, go_sem, Exit.thenS]
  refine wpS_cond (t := false) (by simp [Act.eval]) ?_
  simp only [Bool.false_eq_true, if_false]
  refine wpS_of_wp (wp_skip ?_)
  cases c₀
  simp_all [bodyPostS, results, Tryz.results90]

theorem Lay.setCell {w : World} {b n c : Nat} {u : Nat → Int} {N : Int} (h : Lay w b n c u N) {p : Addr} {v : Value} (hp : w.cell? p = some v) (hv : ∀ x, v ≠ .int .u32 x) (v' : Value) : Lay (w.setCell p v') b n c u N :=
  ⟨by simpa using h.lt, h.le, h.nc, h.cc, fun i hi => by
    rw [World.cell?_setCell_other]
    · exact h.cell i hi
    · rintro rfl
      rw [h.cell i hi] at hp
      exact hv (u i) (Option.some.inj hp).symm, h.inb, h.val, h.norm⟩
/-- The call of an operation without panic. -/
def PairRes (N : Int) (w : World) (e : Ending) (w' : World) : Prop := ∃ v, e = .returned (.tuple #[v, .int .i64 0]) ∧ IsNat w' v N ∧ Gr w w'
/-- m natural numbers lie in block g. -/
def AreNats (w : World) (g m : Nat) : Prop := ∀ i, i < m → ∃ b n c u A, w.cell? ⟨g, i, none⟩ = some (.slice (some ⟨b, 0, none⟩) n c) ∧ Lay w b n c u A
def Cells1 (w : World) (B : Nat) (v : Value) : Prop := w.cell? ⟨B, 0, none⟩ = some v ∧ w.frozen? ⟨B, 0, none⟩ = false
theorem Cells1.keep {w w' : World} {B : Nat} {v : Value} (h : Cells1 w B v) (g : Gr w w') (hB : B < w.heap.size) : Cells1 w' B v :=
  ⟨(Below.cell (p := ⟨B, 0, none⟩) g hB).trans h.1, (Below.frozen (p := ⟨B, 0, none⟩) g hB).trans h.2⟩
theorem two_boxes (w : World) (v : Value) (T U : TypeId) (N M : Nat) (hN : N = w.heap.size) (hM : M = w.heap.size + 1) :
    Cells1 ((w.alloc (.cells #[v] T)).alloc (.cells #[.int .i64 0] U)) N v ∧ Cells1 ((w.alloc (.cells #[v] T)).alloc (.cells #[.int .i64 0] U)) M (.int .i64 0) := by
  subst hN hM
  exact ⟨⟨by simp [go_sem], by simp [go_sem]⟩, ⟨by simp [go_sem], by simp [go_sem]⟩⟩

set_option maxRecDepth 100000 in
set_option maxHeartbeats 4000000 in
theorem guarded_pow (p q : Addr) (N : Int) (g m c : Nat) (w : World) (hm : m ≤ 2) (hgl : g < w.heap.size) (ha : AreNats w g m)
    (hop : ∀ W, Gr w W → Calls Tryz.prog 75 #[.pointer (some p), .pointer (some q)] W (NatRes N W)) :
    Calls Tryz.prog 74 #[.func (.func 75) #[] #[.pointer (some p), .pointer (some q)], .slice (some ⟨g, 0, none⟩) m c] w (PairRes N w) := by
  have hmf : ∀ (fn : Fn) (first cap : Array Value) (w : World), (Instr.makeFunc fn first cap).run Tryz.prog w = .ok (.func fn first cap) w := fun _ _ _ _ => rfl
  have HA := Lib.hid ha; have HO := Lib.hid hop
  clear ha hop
  go_enter_defers Tryz.func74, Tryz.ntmps74
  go_wp2
  obtain ⟨hb1, hb2⟩ := two_boxes w (.slice none 0 0) 71 26 w.heap.size (w.heap.size + 1) rfl rfl
  have HG0 := Lib.hid (((Gr.refl w).alloc (.cells #[.slice none 0 0] 71)).alloc (.cells #[.int .i64 0] 26))
  have HB0 := Lib.hid (And.intro hb1 hb2)
  have HZ0 : Hid (((w.alloc (.cells #[.slice none 0 0] 71)).alloc (.cells #[.int .i64 0] 26)).heap.size = w.heap.size + 2) := Lib.hid (by simp)
  clear hb1 hb2
  generalize (w.alloc (.cells #[.slice none 0 0] 71)).alloc (.cells #[.int .i64 0] 26) = W0 at *
  go_loopw [10] (fun v wr => ∃ i : Nat, i ≤ m ∧ v = .int .i64 i ∧ Gr W0 wr) (fun v _ => m - (intOf v).toNat)
  case atStart => exact ⟨0, Nat.zero_le _, rfl, Gr.refl _⟩
  case round =>
    obtain ⟨i, hi, rfl, hg1⟩ := hrel
    have HG1 := Lib.hid hg1
    clear hg1
    by_cases hlt : i < m
    · obtain ⟨b, n, c', u, A, hcell, hl⟩ := HA.out i hlt
      have hcell := (Below.cell (p := ⟨g, i, none⟩) (HG0.out.trans HG1.out) hgl).trans hcell
      have HL := Lib.hid ((hl.keep HG0.out).keep HG1.out)
      clear hl
      go_wp2_with (go_at_call 58; (with_reducible refine (natValid_lay b n c' u A _ HL.out).mono ?_); rintro e w2 ⟨rfl, hg2⟩)
      have HG2 := Lib.hid (HG1.out.trans hg2)
      clear hg2
      go_roundw
      case rel => exact ⟨i + 1, by omega, by go_num, HG2.out⟩
      case measure => simp [intOf]; omega
    · obtain rfl : i = m := by omega
      obtain ⟨wo, rfl⟩ : ∃ wo : World, wo = wr := ⟨_, rfl⟩
      go_wp2_with (go_at_call 75; (with_reducible refine (HO.out _ (HG0.out.trans HG1.out)).mono ?_); rintro e w2 ⟨v, rfl, ⟨b1, n1, c1, u1, rfl, hl1⟩, hg2⟩; have HV := Lib.hid hl1; have HG2 := Lib.hid (HG1.out.trans hg2); clear hl1 hg2; obtain ⟨⟨k1, k2⟩, ⟨k3, k4⟩⟩ : Cells1 w2 w.heap.size (.slice none 0 0) ∧ Cells1 w2 (w.heap.size + 1) (.int .i64 0) := ⟨HB0.out.1.keep HG2.out (by rw [HZ0.out]; omega), HB0.out.2.keep HG2.out (by rw [HZ0.out]; omega)⟩)
      refine leaves_cons (f := 90) (args := #[.pointer (some ⟨w.heap.size, 0, none⟩), .pointer (some ⟨w.heap.size + 1, 0, none⟩)]) (by simp) (by simp [go_sem]) ?_
      refine (caught_idle ⟨w.heap.size, 0, none⟩ ⟨w.heap.size + 1, 0, none⟩ _).mono ?_
      rintro e u' w3 ⟨rfl, rfl, rfl⟩
      have hL1 := HV.out.setCell k1 (fun x => by simp) (.slice (some ⟨b1, 0, none⟩) n1 c1)
      have hL2 := hL1.setCell (p := ⟨w.heap.size + 1, 0, none⟩) (v := .int .i64 0) (by simp [go_sem, k3]) (fun x => by simp) (.int .i64 0)
      have hg3 : Gr w ((w2.setCell ⟨w.heap.size, 0, none⟩ (.slice (some ⟨b1, 0, none⟩) n1 c1)).setCell ⟨w.heap.size + 1, 0, none⟩ (.int .i64 0)) := ((HG0.out.trans HG2.out).setCell (Nat.le_refl _) _).setCell (Nat.le_succ _) _
      have HF := Lib.hid (show PairRes N w (.returned (.tuple #[.slice (some ⟨b1, 0, none⟩) n1 c1, .int .i64 0])) _ from ⟨_, rfl, ⟨b1, n1, c1, u1, rfl, hL2⟩, hg3⟩)
      clear hL1 hL2 hg3
      simp [Leaves, settle, results, Tryz.results74, go_sem, k1, k3]
      exact HF.out

set_option maxRecDepth 100000 in
set_option maxHeartbeats 4000000 in
theorem guarded_mul (p q : Addr) (N : Int) (g m c : Nat) (w : World) (hm : m ≤ 2) (hgl : g < w.heap.size) (ha : AreNats w g m)
    (hop : ∀ W, Gr w W → Calls Tryz.prog 93 #[.pointer (some p), .pointer (some q)] W (NatRes N W)) :
    Calls Tryz.prog 74 #[.func (.func 93) #[] #[.pointer (some p), .pointer (some q)], .slice (some ⟨g, 0, none⟩) m c] w (PairRes N w) := by
  have hmf : ∀ (fn : Fn) (first cap : Array Value) (w : World), (Instr.makeFunc fn first cap).run Tryz.prog w = .ok (.func fn first cap) w := fun _ _ _ _ => rfl
  have HA := Lib.hid ha; have HO := Lib.hid hop
  clear ha hop
  go_enter_defers Tryz.func74, Tryz.ntmps74
  go_wp2
  obtain ⟨hb1, hb2⟩ := two_boxes w (.slice none 0 0) 71 26 w.heap.size (w.heap.size + 1) rfl rfl
  have HG0 := Lib.hid (((Gr.refl w).alloc (.cells #[.slice none 0 0] 71)).alloc (.cells #[.int .i64 0] 26))
  have HB0 := Lib.hid (And.intro hb1 hb2)
  have HZ0 : Hid (((w.alloc (.cells #[.slice none 0 0] 71)).alloc (.cells #[.int .i64 0] 26)).heap.size = w.heap.size + 2) := Lib.hid (by simp)
  clear hb1 hb2
  generalize (w.alloc (.cells #[.slice none 0 0] 71)).alloc (.cells #[.int .i64 0] 26) = W0 at *
  go_loopw [10] (fun v wr => ∃ i : Nat, i ≤ m ∧ v = .int .i64 i ∧ Gr W0 wr) (fun v _ => m - (intOf v).toNat)
  case atStart => exact ⟨0, Nat.zero_le _, rfl, Gr.refl _⟩
  case round =>
    obtain ⟨i, hi, rfl, hg1⟩ := hrel
    have HG1 := Lib.hid hg1
    clear hg1
    by_cases hlt : i < m
    · obtain ⟨b, n, c', u, A, hcell, hl⟩ := HA.out i hlt
      have hcell := (Below.cell (p := ⟨g, i, none⟩) (HG0.out.trans HG1.out) hgl).trans hcell
      have HL := Lib.hid ((hl.keep HG0.out).keep HG1.out)
      clear hl
      go_wp2_with (go_at_call 58; (with_reducible refine (natValid_lay b n c' u A _ HL.out).mono ?_); rintro e w2 ⟨rfl, hg2⟩)
      have HG2 := Lib.hid (HG1.out.trans hg2)
      clear hg2
      go_roundw
      case rel => exact ⟨i + 1, by omega, by go_num, HG2.out⟩
      case measure => simp [intOf]; omega
    · obtain rfl : i = m := by omega
      obtain ⟨wo, rfl⟩ : ∃ wo : World, wo = wr := ⟨_, rfl⟩
      go_wp2_with (go_at_call 93; (with_reducible refine (HO.out _ (HG0.out.trans HG1.out)).mono ?_); rintro e w2 ⟨v, rfl, ⟨b1, n1, c1, u1, rfl, hl1⟩, hg2⟩; have HV := Lib.hid hl1; have HG2 := Lib.hid (HG1.out.trans hg2); clear hl1 hg2; obtain ⟨⟨k1, k2⟩, ⟨k3, k4⟩⟩ : Cells1 w2 w.heap.size (.slice none 0 0) ∧ Cells1 w2 (w.heap.size + 1) (.int .i64 0) := ⟨HB0.out.1.keep HG2.out (by rw [HZ0.out]; omega), HB0.out.2.keep HG2.out (by rw [HZ0.out]; omega)⟩)
      refine leaves_cons (f := 90) (args := #[.pointer (some ⟨w.heap.size, 0, none⟩), .pointer (some ⟨w.heap.size + 1, 0, none⟩)]) (by simp) (by simp [go_sem]) ?_
      refine (caught_idle ⟨w.heap.size, 0, none⟩ ⟨w.heap.size + 1, 0, none⟩ _).mono ?_
      rintro e u' w3 ⟨rfl, rfl, rfl⟩
      have hL1 := HV.out.setCell k1 (fun x => by simp) (.slice (some ⟨b1, 0, none⟩) n1 c1)
      have hL2 := hL1.setCell (p := ⟨w.heap.size + 1, 0, none⟩) (v := .int .i64 0) (by simp [go_sem, k3]) (fun x => by simp) (.int .i64 0)
      have hg3 : Gr w ((w2.setCell ⟨w.heap.size, 0, none⟩ (.slice (some ⟨b1, 0, none⟩) n1 c1)).setCell ⟨w.heap.size + 1, 0, none⟩ (.int .i64 0)) := ((HG0.out.trans HG2.out).setCell (Nat.le_refl _) _).setCell (Nat.le_succ _) _
      have HF := Lib.hid (show PairRes N w (.returned (.tuple #[.slice (some ⟨b1, 0, none⟩) n1 c1, .int .i64 0])) _ from ⟨_, rfl, ⟨b1, n1, c1, u1, rfl, hL2⟩, hg3⟩)
      clear hL1 hL2 hg3
      simp [Leaves, settle, results, Tryz.results74, go_sem, k1, k3]
      exact HF.out

set_option maxRecDepth 100000 in
set_option maxHeartbeats 1000000 in
theorem pow1_lay (P Q b n c : Nat) (u : Nat → Int) (A : Int) (m : Nat) (w : World) (hp : w.cell? ⟨P, 0, none⟩ = some (.slice (some ⟨b, 0, none⟩) n c)) (hq : w.cell? ⟨Q, 0, none⟩ = some (.int .i64 (m : Int)))
    (ha : Lay w b n c u A) (hA : 1 < A) (hm : 0 < m) (hm2 : m ≤ 2000) (hlim : A ^ m < BB ^ 640) :
    Calls Tryz.prog 75 #[.pointer (some ⟨P, 0, none⟩), .pointer (some ⟨Q, 0, none⟩)] w (NatRes (A ^ m) w) := by
  have HC := fun w' (h : w' = w) => h ▸ power_lay b n c u A m w ha hA hm hm2 hlim
  clear ha hlim
  go_enter Tryz.func75, Tryz.ntmps75
  go_wp2_with (go_at_call 76; (with_reducible refine (HC _ rfl).mono ?_); rintro e w2 ⟨v, rfl, hv, hg⟩)
  go_ret
  exact ⟨v, rfl, hv, hg⟩
set_option maxRecDepth 100000 in
set_option maxHeartbeats 1000000 in
theorem mul1_lay (P Q b n c b' n' c' : Nat) (u u' : Nat → Int) (A B : Int) (w : World) (hp : w.cell? ⟨P, 0, none⟩ = some (.slice (some ⟨b, 0, none⟩) n c)) (hq : w.cell? ⟨Q, 0, none⟩ = some (.slice (some ⟨b', 0, none⟩) n' c'))
    (ha : Lay w b n c u A) (hb : Lay w b' n' c' u' B) (hlim : A * B < BB ^ 640) :
    Calls Tryz.prog 93 #[.pointer (some ⟨P, 0, none⟩), .pointer (some ⟨Q, 0, none⟩)] w (NatRes (A * B) w) := by
  have HC := fun w' (h : w' = w) => h ▸ product_lay b n c u A b' n' c' u' B w ha hb hlim
  clear ha hb hlim
  go_enter Tryz.func93, Tryz.ntmps93
  go_wp2_with (go_at_call 92; (with_reducible refine (HC _ rfl).mono ?_); rintro e w2 ⟨v, rfl, hv, hg⟩)
  go_ret
  exact ⟨v, rfl, hv, hg⟩

/-- The world in which Pow calls guarded. -/
def powW (w : World) (v : Value) (m : Int) : World := ((w.alloc (.cells #[v] 71)).alloc (.cells #[.int .i64 m] 3)).alloc (.cells #[v] 71)
theorem powW_gr (w : World) (v : Value) (m : Int) : Gr w (powW w v m) := (((Gr.refl w).alloc _).alloc _).alloc _
theorem powW_size (w : World) (v : Value) (m : Int) : (powW w v m).heap.size = w.heap.size + 3 := by simp [powW]
theorem powW_cells (w : World) (v : Value) (m : Int) : (powW w v m).cell? ⟨w.heap.size, 0, none⟩ = some v ∧ (powW w v m).cell? ⟨w.heap.size + 1, 0, none⟩ = some (.int .i64 m) ∧ (powW w v m).cell? ⟨w.heap.size + 2, 0, none⟩ = some v := by
  refine ⟨?_, ?_, ?_⟩ <;> simp [powW, go_sem]
theorem guarded_powW (b n c : Nat) (u : Nat → Int) (A : Int) (m : Nat) (w : World) (ha : Lay w b n c u A) (hA : 1 < A) (hm : 0 < m) (hm2 : m ≤ 2000) (hlim : A ^ m < BB ^ 640) :
    Calls Tryz.prog 74 #[.func (.func 75) #[] #[.pointer (some ⟨w.heap.size, 0, none⟩), .pointer (some ⟨w.heap.size + 1, 0, none⟩)], .slice (some ⟨w.heap.size + 2, 0, none⟩) 1 1]
      (powW w (.slice (some ⟨b, 0, none⟩) n c) m) (PairRes (A ^ m) (powW w (.slice (some ⟨b, 0, none⟩) n c) m)) := by
  have hz := powW_size w (.slice (some ⟨b, 0, none⟩) n c) m
  obtain ⟨h1, h2, h3⟩ := powW_cells w (.slice (some ⟨b, 0, none⟩) n c) m
  have hl := ha.keep (powW_gr w (.slice (some ⟨b, 0, none⟩) n c) m)
  generalize powW w (.slice (some ⟨b, 0, none⟩) n c) m = W at *
  refine guarded_pow _ _ _ _ 1 1 W (by omega) (by omega) (fun i hi => ?_) (fun W' hg => ?_)
  · obtain rfl : i = 0 := by omega
    exact ⟨b, n, c, u, A, h3, hl⟩
  · exact pow1_lay _ _ b n c u A m W' ((Below.cell (p := ⟨w.heap.size, 0, none⟩) hg (by simp; omega)).trans h1) ((Below.cell (p := ⟨w.heap.size + 1, 0, none⟩) hg (by simp; omega)).trans h2) (hl.keep hg) hA hm hm2 hlim

set_option maxRecDepth 100000 in
set_option maxHeartbeats 1000000 in
theorem pow_lay (b n c : Nat) (u : Nat → Int) (A : Int) (m : Nat) (w : World) (ha : Lay w b n c u A) (hA : 1 < A) (hm : 0 < m) (hm2 : m ≤ 2000) (hlim : A ^ m < BB ^ 640) :
    Calls Tryz.prog 55 #[.slice (some ⟨b, 0, none⟩) n c, .int .i64 m] w (PairRes (A ^ m) w) := by
  have hmf : ∀ (fn : Fn) (first cap : Array Value) (w : World), (Instr.makeFunc fn first cap).run Tryz.prog w = .ok (.func fn first cap) w := fun _ _ _ _ => rfl
  have HC := guarded_powW b n c u A m w ha hA hm hm2 hlim
  have HG := powW_gr w (.slice (some ⟨b, 0, none⟩) n c) m
  unfold powW at HC HG
  clear ha hlim
  go_enter Tryz.func55, Tryz.ntmps55
  go_wp2_with (go_at_call 74; (with_reducible refine HC.mono ?_); rintro e w2 ⟨v, rfl, hv, hg⟩)
  go_ret2
  exact ⟨v, rfl, hv, HG.trans hg⟩

/-- The world in which Mul calls guarded. -/
def mulW (w : World) (v v' : Value) : World := ((w.alloc (.cells #[v] 71)).alloc (.cells #[v'] 71)).alloc (.cells #[v, v'] 71)
theorem mulW_gr (w : World) (v v' : Value) : Gr w (mulW w v v') := (((Gr.refl w).alloc _).alloc _).alloc _
theorem mulW_size (w : World) (v v' : Value) : (mulW w v v').heap.size = w.heap.size + 3 := by simp [mulW]
theorem mulW_cells (w : World) (v v' : Value) : (mulW w v v').cell? ⟨w.heap.size, 0, none⟩ = some v ∧ (mulW w v v').cell? ⟨w.heap.size + 1, 0, none⟩ = some v' ∧ (mulW w v v').cell? ⟨w.heap.size + 2, 0, none⟩ = some v ∧ (mulW w v v').cell? ⟨w.heap.size + 2, 1, none⟩ = some v' := by
  refine ⟨?_, ?_, ?_, ?_⟩ <;> simp [mulW, go_sem]
theorem guarded_mulW (b n c : Nat) (u : Nat → Int) (A : Int) (b' n' c' : Nat) (u' : Nat → Int) (B : Int) (w : World) (ha : Lay w b n c u A) (hb : Lay w b' n' c' u' B) (hlim : A * B < BB ^ 640) :
    Calls Tryz.prog 74 #[.func (.func 93) #[] #[.pointer (some ⟨w.heap.size, 0, none⟩), .pointer (some ⟨w.heap.size + 1, 0, none⟩)], .slice (some ⟨w.heap.size + 2, 0, none⟩) 2 2]
      (mulW w (.slice (some ⟨b, 0, none⟩) n c) (.slice (some ⟨b', 0, none⟩) n' c')) (PairRes (A * B) (mulW w (.slice (some ⟨b, 0, none⟩) n c) (.slice (some ⟨b', 0, none⟩) n' c'))) := by
  have hz := mulW_size w (.slice (some ⟨b, 0, none⟩) n c) (.slice (some ⟨b', 0, none⟩) n' c')
  obtain ⟨h1, h2, h3, h4⟩ := mulW_cells w (.slice (some ⟨b, 0, none⟩) n c) (.slice (some ⟨b', 0, none⟩) n' c')
  have hl := ha.keep (mulW_gr w (.slice (some ⟨b, 0, none⟩) n c) (.slice (some ⟨b', 0, none⟩) n' c'))
  have hl' := hb.keep (mulW_gr w (.slice (some ⟨b, 0, none⟩) n c) (.slice (some ⟨b', 0, none⟩) n' c'))
  generalize mulW w (.slice (some ⟨b, 0, none⟩) n c) (.slice (some ⟨b', 0, none⟩) n' c') = W at *
  refine guarded_mul _ _ _ _ 2 2 W (by omega) (by omega) (fun i hi => ?_) (fun W' hg => ?_)
  · obtain rfl | rfl : i = 0 ∨ i = 1 := by omega
    · exact ⟨b, n, c, u, A, h3, hl⟩
    · exact ⟨b', n', c', u', B, h4, hl'⟩
  · exact mul1_lay _ _ b n c b' n' c' u u' A B W' ((Below.cell (p := ⟨w.heap.size, 0, none⟩) hg (by simp; omega)).trans h1) ((Below.cell (p := ⟨w.heap.size + 1, 0, none⟩) hg (by simp; omega)).trans h2) (hl.keep hg) (hl'.keep hg) hlim

set_option maxRecDepth 100000 in
set_option maxHeartbeats 1000000 in
theorem natMul_lay (b n c : Nat) (u : Nat → Int) (A : Int) (b' n' c' : Nat) (u' : Nat → Int) (B : Int) (w : World) (ha : Lay w b n c u A) (hb : Lay w b' n' c' u' B) (hlim : A * B < BB ^ 640) :
    Calls Tryz.prog 78 #[.slice (some ⟨b, 0, none⟩) n c, .slice (some ⟨b', 0, none⟩) n' c'] w (PairRes (A * B) w) := by
  have hmf : ∀ (fn : Fn) (first cap : Array Value) (w : World), (Instr.makeFunc fn first cap).run Tryz.prog w = .ok (.func fn first cap) w := fun _ _ _ _ => rfl
  have HC := guarded_mulW b n c u A b' n' c' u' B w ha hb hlim
  have HG := mulW_gr w (.slice (some ⟨b, 0, none⟩) n c) (.slice (some ⟨b', 0, none⟩) n' c')
  unfold mulW at HC HG
  clear ha hb hlim
  go_enter Tryz.func78, Tryz.ntmps78
  go_wp2_with (go_at_call 74; (with_reducible refine HC.mono ?_); rintro e w2 ⟨v, rfl, hv, hg⟩)
  go_ret2
  exact ⟨v, rfl, hv, HG.trans hg⟩

set_option maxRecDepth 100000 in
set_option maxHeartbeats 1000000 in
theorem natCmp_lay (b n c : Nat) (u : Nat → Int) (A : Int) (b' n' c' : Nat) (u' : Nat → Int) (B : Int) (w : World) (ha : Lay w b n c u A) (hb : Lay w b' n' c' u' B) :
    Calls Tryz.prog 36 #[.slice (some ⟨b, 0, none⟩) n c, .slice (some ⟨b', 0, none⟩) n' c'] w fun e w' => e = .returned (.tuple #[.int .i64 (cmpZ A B), .int .i64 0]) ∧ Gr w w' := by
  have HA := Lib.hid ha; have HB := Lib.hid hb
  clear ha hb
  go_enter Tryz.func36, Tryz.ntmps36
  go_wp2_with fail
  refine (natValid_lay b n c u A _ HA.out).mono ?_
  rintro e w1 ⟨rfl, hg1⟩
  have HG1 := Lib.hid hg1; clear hg1
  go_wp2_with fail
  refine (natValid_lay b' n' c' u' B _ (HB.out.keep HG1.out)).mono ?_
  rintro e w2 ⟨rfl, hg2⟩
  have HG2 := Lib.hid (HG1.out.trans hg2); clear hg2
  go_wp2_with fail
  refine (compare_lay b n c b' n' c' u u' A B _ (HA.out.keep HG2.out) (HB.out.keep HG2.out)).mono ?_
  rintro e w3 ⟨rfl, hg3⟩
  have HG3 := Lib.hid (HG2.out.trans hg3); clear hg3
  go_wp2_with fail
  go_ret2
  exact ⟨rfl, HG3.out⟩

end Go.Proofs.YtelhmdhhabgihaaGreatDoor
