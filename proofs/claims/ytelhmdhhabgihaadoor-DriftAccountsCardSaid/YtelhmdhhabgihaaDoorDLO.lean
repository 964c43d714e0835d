/-
  The law DriftOrder.
-/
import Derived.Test.YtelhmdhhabgihaaDoorDLJ
import Derived.Deep.AppendLies
import Derived.Laws.StructEq
import Derived.KernelRfl
namespace Go.Proofs.YtelhmdhhabgihaaDoor
open Go.RowKit

set_option maxRecDepth 100000 in
set_option maxHeartbeats 2000000 in
theorem eq6V (a0 a1 a2 a3 a4 a5 b0 b1 b2 b3 b4 b5 : Int) (w : World) : (Op.equalIn 10000 35 (.agg #[.int .i64 a0, .int .i64 a1, .int .i64 a2, .int .i64 a3, .int .i64 a4, .int .i64 a5]) (.agg #[.int .i64 b0, .int .i64 b1, .int .i64 b2, .int .i64 b3, .int .i64 b4, .int .i64 b5])).run Tryd.prog w = .ok (a0 == b0 && a1 == b1 && a2 == b2 && a3 == b3 && a4 == b4 && a5 == b5) w := by
  have u3 := Tryd.underlying3
  have a3' := Tryd.isAgg3
  have z3 := Tryd.sizeOf3
  rw [show (10000 : Nat) = 9999 + 1 from rfl, Op.equalIn]
  simp only [Sem.run_bind, run_underlying Tryd.underlying35, Result.andThen_ok]
  simp only [Std.Legacy.Range.forIn_eq_forIn_range', Std.Legacy.Range.size, Nat.sub_zero, Nat.add_sub_cancel, Nat.div_one, List.range'_succ, List.range'_zero, List.forIn_cons, List.forIn_nil]
  by_cases h0 : a0 = b0
  · by_cases h1 : a1 = b1
    · by_cases h2 : a2 = b2
      · by_cases h3 : a3 = b3
        · by_cases h4 : a4 = b4
          · go_simp
            by_cases h5 : a5 = b5 <;> simp [h5]
          · go_simp
        · go_simp
      · go_simp
    · go_simp
  · go_simp
theorem eq6V_yes (a0 a1 a2 a3 a4 a5 : Int) (w : World) : (Op.equalIn 10000 35 (.agg #[.int .i64 a0, .int .i64 a1, .int .i64 a2, .int .i64 a3, .int .i64 a4, .int .i64 a5]) (.agg #[.int .i64 a0, .int .i64 a1, .int .i64 a2, .int .i64 a3, .int .i64 a4, .int .i64 a5])).run Tryd.prog w = .ok true w := by
  rw [eq6V]; simp
/-- The first N values. -/
def cellsQ (q : Nat → Value) (N : Nat) : List Value := (List.range N).map q
theorem cellsQ_len (q : Nat → Value) (N : Nat) : (cellsQ q N).length = N := by simp [cellsQ]
theorem cellsQ_at (q : Nat → Value) (N : Nat) {j : Nat} (hj : j < N) : (cellsQ q N)[j]? = some (q j) := by simp [cellsQ, hj]
theorem cellsQ_one {q : Nat → Value} {N : Nat} (h : ∀ j, j < N → (q j).oneCell' = true) : ∀ u ∈ cellsQ q N, u.oneCell' = true := by
  intro u hu
  simp only [cellsQ, List.mem_map, List.mem_range] at hu
  obtain ⟨j, hj, rfl⟩ := hu
  exact h j hj
theorem cellsQ_news {w : World} {b off N : Nat} {q : Nat → Value} (h : ∀ j, j < N → w.cell? ⟨b, off + j, none⟩ = some (q j)) : ∀ j u, (cellsQ q N)[j]? = some u → w.cell? ((⟨b, off, none⟩ : Addr).add j) = some u := by
  intro j u hj
  have hlt := (List.getElem?_eq_some_iff.1 hj).1
  rw [cellsQ_len] at hlt
  rw [cellsQ_at q N hlt] at hj
  cases hj
  have hc := h j hlt
  unfold Addr.add
  split
  · rename_i e0
    have : off + j = off := by omega
    simp_all
  · exact hc

/-- N cells, q, lie at the head of block g, which may be written. -/
structure RowG (W : World) (g N : Nat) (q : Nat → Value) : Prop where
  lt : g < W.heap.size
  froz : ∀ o, W.frozen? ⟨g, o, none⟩ = false
  cell : ∀ i, i < N → W.cell? ⟨g, i, none⟩ = some (q i)
theorem RowG.keep {W W' : World} {g N : Nat} {q : Nat → Value} (h : RowG W g N q) (k : Gr W W') : RowG W' g N q :=
  ⟨Nat.lt_of_lt_of_le h.lt k.le, fun o => (Below.frozen (p := ⟨g, o, none⟩) k h.lt).trans (h.froz o), fun i hi => (Below.cell (p := ⟨g, i, none⟩) k h.lt).trans (h.cell i hi)⟩
theorem RowG.drew {W : World} {g N : Nat} {q : Nat → Value} (h : RowG W g N q) : RowG W.drew g N q := h.keep (Gr.refl W).drew
theorem RowG.other {W : World} {g N : Nat} {q : Nat → Value} (h : RowG W g N q) {p : Addr} (hp : p.block ≠ g) (v : Value) : RowG (W.setCell p v) g N q :=
  ⟨by simpa using h.lt, fun o => by rw [World.frozen?_setCell]; exact h.froz o, fun i hi => by
    rw [World.cell?_setCell_other]
    · exact h.cell i hi
    · rintro rfl; exact hp rfl⟩
theorem RowG.set {W : World} {g N i : Nat} {q : Nat → Value} (h : RowG W g N q) (hi : i < N) (v : Value) : RowG (W.setCell ⟨g, i, none⟩ v) g N (fun j => if j = i then v else q j) :=
  ⟨by simpa using h.lt, fun o => by rw [World.frozen?_setCell]; exact h.froz o, fun j hj => by
    by_cases e : j = i
    · subst e
      rw [World.cell?_setCell_same' _ _ _ (by rw [h.cell j hj]; rfl)]
      simp
    · rw [World.cell?_setCell_other, h.cell j hj, if_neg e]
      intro e2; cases e2; exact e rfl⟩
theorem RowG.congr {W : World} {g N : Nat} {q q' : Nat → Value} (h : RowG W g N q) (he : ∀ j, j < N → q j = q' j) : RowG W g N q' := ⟨h.lt, h.froz, fun i hi => by rw [← he i hi]; exact h.cell i hi⟩
theorem rowG_of_own {W : World} {base e n size cap g N : Nat} {q : Nat → Value} (h : W.ownsRow base e size (.slice (some ⟨g, 0, none⟩) n cap) n (cellsQ q N)) (hN : N = n * size) : RowG W g N q := by
  refine ⟨(h.lt g rfl).2, fun o => h.frozenAt o, fun i hi => ?_⟩
  rw [h.cellAt i (by rw [← hN]; exact hi)]
  exact cellsQ_at q N hi
/-- What append to an empty slice has made. -/
theorem copied {W W' : World} {B e n size N : Nat} {q : Nat → Value} {v : Value} (ho : W'.ownsRow B e size v n (cellsQ q N)) (hg : W.grownBy W' none) (hn : 0 < n) (hN : N = n * size) :
    ∃ g cap, v = .slice (some ⟨g, 0, none⟩) n cap ∧ B ≤ g ∧ RowG W' g N q ∧ Gr W W' := by
  obtain ⟨g, cap, rfl, hb, -⟩ := ho.form hn
  exact ⟨g, cap, rfl, hb, rowG_of_own ho hN, gr_of_grown hg⟩
/-- The cells of rows of four. -/
def row4 (f : Nat → Nat → Int) (p : Nat) : Value := .int .i64 (f (p / 4) (p % 4))
theorem rows4_news {W : World} {b off n : Nat} {f : Nat → Nat → Int} (h : RowsAt W 4 (some ⟨b, off, none⟩) n f) : ∀ j u, (cellsQ (row4 f) (n * 4))[j]? = some u → W.cell? ((⟨b, off, none⟩ : Addr).add j) = some u :=
  cellsQ_news (fun j hj => by
    obtain ⟨b', off', e, -, hc⟩ := h (by omega)
    cases e
    have := hc (j / 4) (by omega) (j % 4) (by omega)
    rw [show off + j / 4 * 4 + j % 4 = off + j by omega] at this
    exact this)
theorem rows4_rowG {W : World} {g n : Nat} {q : Nat → Value} {f : Nat → Nat → Int} (h : RowG W g (n * 4) q) (hq : ∀ i j, i < n → j < 4 → q (i * 4 + j) = .int .i64 (f i j)) : RowsAt W 4 (some ⟨g, 0, none⟩) n f :=
  fun _ => ⟨g, 0, rfl, h.lt, fun i hi j hj => by rw [Nat.zero_add, h.cell (i * 4 + j) (by omega), hq i j hi hj]⟩
theorem row4_at (f : Nat → Nat → Int) (i j : Nat) (hj : j < 4) : row4 f (i * 4 + j) = .int .i64 (f i j) := by
  unfold row4
  rw [show (i * 4 + j) / 4 = i by omega, show (i * 4 + j) % 4 = j by omega]
/-- One row replaced. -/
def rowU (f : Nat → Nat → Int) (i : Nat) (v : Nat → Int) (r j : Nat) : Int := if r = i then v j else f r j
/-- Rows in a block of the call's own. -/
def RowX (W : World) (g n : Nat) (f : Nat → Nat → Int) : Prop := g < W.heap.size ∧ (∀ o, W.frozen? ⟨g, o, none⟩ = false) ∧ ∀ i, i < n → ∀ j, j < 4 → W.cell? ⟨g, i * 4 + j, none⟩ = some (.int .i64 (f i j))
theorem RowX.keep {W W' : World} {g n : Nat} {f : Nat → Nat → Int} (h : RowX W g n f) (k : Gr W W') : RowX W' g n f :=
  ⟨Nat.lt_of_lt_of_le h.1 k.le, fun o => (Below.frozen (p := ⟨g, o, none⟩) k h.1).trans (h.2.1 o), fun i hi j hj => (Below.cell (p := ⟨g, i * 4 + j, none⟩) k h.1).trans (h.2.2 i hi j hj)⟩
theorem RowX.set {W : World} {g n : Nat} {f : Nat → Nat → Int} (h : RowX W g n f) {i c : Nat} (hi : i < n) (hc : c < 4) (v : Int) {o : Nat} (ho : o = i * 4 + c) : RowX (W.setCell ⟨g, o, none⟩ (.int .i64 v)) g n (fun r j => if r = i ∧ j = c then v else f r j) := by
  subst ho
  refine ⟨by simpa using h.1, fun o => by rw [World.frozen?_setCell]; exact h.2.1 o, fun r hr j hj => ?_⟩
  by_cases e : r = i ∧ j = c
  · obtain ⟨rfl, rfl⟩ := e
    rw [World.cell?_setCell_same' _ _ _ (by rw [h.2.2 r hr j hj]; rfl)]
    simp
  · rw [World.cell?_setCell_other, h.2.2 r hr j hj]
    · simp only [if_neg e]
    · intro e2
      injection e2 with _ e3
      exact e ⟨by omega, by omega⟩
theorem RowX.rows {W : World} {g n : Nat} {f f' : Nat → Nat → Int} (h : RowX W g n f) (e : ∀ i, i < n → ∀ j, j < 4 → f i j = f' i j) : RowsAt W 4 (some ⟨g, 0, none⟩) n f' :=
  fun _ => ⟨g, 0, rfl, h.1, fun i hi j hj => by rw [Nat.zero_add, h.2.2 i hi j hj, e i hi j hj]⟩
theorem RowX.congr {W : World} {g n : Nat} {f f' : Nat → Nat → Int} (h : RowX W g n f) (e : ∀ i, i < n → ∀ j, j < 4 → f i j = f' i j) : RowX W g n f' :=
  ⟨h.1, h.2.1, fun i hi j hj => by rw [h.2.2 i hi j hj, e i hi j hj]⟩
theorem rowX_of {W : World} {g n : Nat} {f : Nat → Nat → Int} (h : RowG W g (n * 4) (row4 f)) : RowX W g n f :=
  ⟨h.lt, h.froz, fun i hi j hj => by rw [h.cell (i * 4 + j) (by omega), row4_at f i j hj]⟩
/-- A whole row stored. -/
theorem RowX.four {W : World} {g n : Nat} {f : Nat → Nat → Int} (h : RowX W g n f) {i : Nat} (hi : i < n) (v0 v1 v2 v3 : Int) : RowX ((((W.setCell ⟨g, i * 4, none⟩ (.int .i64 v0)).setCell ⟨g, i * 4 + 1, none⟩ (.int .i64 v1)).setCell ⟨g, i * 4 + 2, none⟩ (.int .i64 v2)).setCell ⟨g, i * 4 + 3, none⟩ (.int .i64 v3)) g n (fun r j => if r = i then (if j = 0 then v0 else if j = 1 then v1 else if j = 2 then v2 else v3) else f r j) := by
  refine ((((h.set hi (c := 0) (by omega) v0 rfl).set hi (c := 1) (by omega) v1 rfl).set hi (c := 2) (by omega) v2 rfl).set hi (c := 3) (by omega) v3 rfl).congr fun r _ j hj => ?_
  by_cases e : r = i
  · obtain rfl | rfl | rfl | rfl : j = 0 ∨ j = 1 ∨ j = 2 ∨ j = 3 := by omega
    all_goals simp [e]
  · simp [e]
/-- The four stores of the law. -/
def exS (t : Nat → Nat → Int) (i k r j : Nat) : Int := if r = k ∧ j = 0 then t k 0 else if r = k then t i j else if r = i ∧ j = 0 then t i 0 else if r = i then t k j else t r j
theorem exS_exT (t : Nat → Nat → Int) (i k r j : Nat) : exS t i k r j = exT t i k r j := by
  unfold exS exT swN
  by_cases e0 : j = 0
  · subst e0
    by_cases e1 : r = k
    · subst e1; simp
    · by_cases e2 : r = i
      · subst e2; simp [e1]
      · simp [e1, e2]
  · by_cases e1 : r = i
    · subst e1
      by_cases e2 : r = k
      · subst e2; simp [e0]
      · simp [e0, e2]
    · by_cases e2 : r = k
      · subst e2; simp [e0, e1]
      · simp [e0, e1, e2]
theorem exFin (t : Nat → Nat → Int) (i k r j : Nat) (hj : j < 4) : (fun r' j => if r' = k ∧ j = 0 then t k 0 else (fun r j => if r = k then (if j = 0 then t i 0 else if j = 1 then t i 1 else if j = 2 then t i 2 else t i 3) else (fun r' j => if r' = i ∧ j = 0 then t i 0 else (fun r j => if r = i then (if j = 0 then t k 0 else if j = 1 then t k 1 else if j = 2 then t k 2 else t k 3) else t r j) r' j) r j) r' j) r j = exS t i k r j := by
  unfold exS
  obtain rfl | rfl | rfl | rfl : j = 0 ∨ j = 1 ∨ j = 2 ∨ j = 3 := by omega
  all_goals simp
set_option maxRecDepth 100000 in
set_option maxHeartbeats 16000000 in
theorem dorder_bad (A B : Option Addr) (n ca m d : Nat) (nm : Nat → ByteArray) (f t : Nat → Nat → Int) (x y : Int) (w : World) (hP : Primes w) (hL : Logs w) (hA : NamedAt w A n nm f) (hB : RowsAt w 4 B m t) (hbad : walkOk nm f n t m = false ∨ (walkOk nm f n t m = true ∧ ¬ (0 ≤ x ∧ x < (m : Int) ∧ 0 ≤ y ∧ y < (m : Int)))) :
    Calls Tryd.prog 7 #[.slice A n ca, .slice B m d, .int .i64 x, .int .i64 y] w fun e w' => e = .returned (.bool true) ∧ Gr w w' := by
  have hA1 := fun W (g : Gr w W) => account_any A B n ca m d nm f t W (hA.keep g) (hB.keep g)
  have HP := Lib.hid hP; have HLG := Lib.hid hL
  rcases hbad with hok | ⟨hok, hxy⟩
  · rw [hok, if_neg (by simp), if_neg (by simp)] at hA1
    have HA1 := Lib.hid hA1
    clear hA1 hP hL hA hB hok
    go_enter Tryd.func7, Tryd.ntmps7
    go_wp2_with fail
    go_at_call 10
    refine (dhead_any _ HP.out HLG.out).mono ?_
    rintro e w0 ⟨rfl, hg0⟩
    have HG0 := Lib.hid hg0
    clear hg0
    go_wp2_with fail
    go_at_call 16
    refine (HA1.out _ HG0.out).mono ?_
    rintro e w1 ⟨A1, c1, rfl, hi1, hc1, hg1⟩
    have HG1 := Lib.hid (HG0.out.trans hg1); have HI1 := Lib.hid hi1
    clear hg1 hi1
    go_wp2_with fail
    go_ret
    exact ⟨rfl, HG1.out⟩
  · rw [hok, if_pos rfl, if_pos rfl] at hA1
    have HA1 := Lib.hid hA1
    clear hA1 hP hL hA hB hok
    by_cases h1 : x < 0
    · have p1 : decide (x < 0) = true := decide_eq_true h1
      clear hxy h1
      go_enter Tryd.func7, Tryd.ntmps7
      go_wp2_with fail
      go_at_call 10
      refine (dhead_any _ HP.out HLG.out).mono ?_
      rintro e w0 ⟨rfl, hg0⟩
      have HG0 := Lib.hid hg0
      clear hg0
      go_wp2_with fail
      go_at_call 16
      refine (HA1.out _ HG0.out).mono ?_
      rintro e w1 ⟨A1, c1, rfl, hi1, hc1, hg1⟩
      have HG1 := Lib.hid (HG0.out.trans hg1); have HI1 := Lib.hid hi1
      clear hg1 hi1
      go_wp2_with fail
      go_ret
      exact ⟨rfl, HG1.out⟩
    · have p1 : decide (x < 0) = false := decide_eq_false h1
      by_cases h2 : (m : Int) ≤ x
      · have p2 : decide ((m : Int) ≤ x) = true := decide_eq_true h2
        clear hxy h1 h2
        go_enter Tryd.func7, Tryd.ntmps7
        go_wp2_with fail
        go_at_call 10
        refine (dhead_any _ HP.out HLG.out).mono ?_
        rintro e w0 ⟨rfl, hg0⟩
        have HG0 := Lib.hid hg0
        clear hg0
        go_wp2_with fail
        go_at_call 16
        refine (HA1.out _ HG0.out).mono ?_
        rintro e w1 ⟨A1, c1, rfl, hi1, hc1, hg1⟩
        have HG1 := Lib.hid (HG0.out.trans hg1); have HI1 := Lib.hid hi1
        clear hg1 hi1
        go_wp2_with fail
        go_ret
        exact ⟨rfl, HG1.out⟩
      · have p2 : decide ((m : Int) ≤ x) = false := decide_eq_false h2
        by_cases h3 : y < 0
        · have p3 : decide (y < 0) = true := decide_eq_true h3
          clear hxy h1 h2 h3
          go_enter Tryd.func7, Tryd.ntmps7
          go_wp2_with fail
          go_at_call 10
          refine (dhead_any _ HP.out HLG.out).mono ?_
          rintro e w0 ⟨rfl, hg0⟩
          have HG0 := Lib.hid hg0
          clear hg0
          go_wp2_with fail
          go_at_call 16
          refine (HA1.out _ HG0.out).mono ?_
          rintro e w1 ⟨A1, c1, rfl, hi1, hc1, hg1⟩
          have HG1 := Lib.hid (HG0.out.trans hg1); have HI1 := Lib.hid hi1
          clear hg1 hi1
          go_wp2_with fail
          go_ret
          exact ⟨rfl, HG1.out⟩
        · have p3 : decide (y < 0) = false := decide_eq_false h3
          have p4 : decide ((m : Int) ≤ y) = true := decide_eq_true (by omega)
          clear hxy h1 h2 h3
          go_enter Tryd.func7, Tryd.ntmps7
          go_wp2_with fail
          go_at_call 10
          refine (dhead_any _ HP.out HLG.out).mono ?_
          rintro e w0 ⟨rfl, hg0⟩
          have HG0 := Lib.hid hg0
          clear hg0
          go_wp2_with fail
          go_at_call 16
          refine (HA1.out _ HG0.out).mono ?_
          rintro e w1 ⟨A1, c1, rfl, hi1, hc1, hg1⟩
          have HG1 := Lib.hid (HG0.out.trans hg1); have HI1 := Lib.hid hi1
          clear hg1 hi1
          go_wp2_with fail
          go_ret
          exact ⟨rfl, HG1.out⟩
set_option maxRecDepth 100000 in
set_option maxHeartbeats 16000000 in
theorem dorder_in (A B : Option Addr) (n ca m d : Nat) (nm : Nat → ByteArray) (f t : Nat → Nat → Int) (i k : Nat) (w : World) (hP : Primes w) (hL : Logs w) (hA : NamedAt w A n nm f) (hB : RowsAt w 4 B m t) (hok : walkOk nm f n t m = true) (hi : i < m) (hk : k < m) :
    Calls Tryd.prog 7 #[.slice A n ca, .slice B m d, .int .i64 (i : Int), .int .i64 (k : Int)] w fun e w' => e = .returned (.bool true) ∧ Gr w w' := by
  have hA1 := fun W (g : Gr w W) => account_any A B n ca m d nm f t W (hA.keep g) (hB.keep g)
  have HP := Lib.hid hP; have HLG := Lib.hid hL
  obtain ⟨k1, k2, k3⟩ := walkOk_parts hok
  have hn6 := (commaB_parts k1).2.1
  have k4 := takesB_ex k3 hi hk
  have hok2 : walkOk nm f n (exT t i k) m = true := walkOk_mk ⟨k1, k2, k4⟩
  have hA2 := fun W (g : Gr w W) D e (hD : RowsAt W 4 D m (exT t i k)) => account_any A D n ca m e nm f (exT t i k) W (hA.keep g) hD
  have hW1 := fun W (g : Gr w W) => walk_any A B n ca m d nm f t W (hA.keep g) (hB.keep g)
  have hW2 := fun W (g : Gr w W) D e (hD : RowsAt W 4 D m (exT t i k)) => walk_any A D n ca m e nm f (exT t i k) W (hA.keep g) hD
  have hAE : accP (exT t i k) m = accP t m := funext fun j => accP_ex hi hk j
  rw [hok, if_pos rfl, if_pos rfl] at hA1
  rw [hok2, if_pos rfl, if_pos rfl, hAE] at hA2
  have hSE := shP_eq (f := f) k3 k4 (fun j _ => (accP_ex hi hk j).symm)
  have hC1 := walkE_cases nm f n t m
  have hC2 := walkE_cases nm f n (exT t i k) m
  obtain ⟨b0, o0, rfl, hb0, hcc⟩ := hB (by omega)
  have a0 := hcc i hi 0 (by omega); have a1 := hcc i hi 1 (by omega); have a2 := hcc i hi 2 (by omega); have a3 := hcc i hi 3 (by omega)
  have e0 := hcc k hk 0 (by omega); have e1 := hcc k hk 1 (by omega); have e2 := hcc k hk 2 (by omega); have e3 := hcc k hk 3 (by omega)
  simp only [Nat.add_zero] at a0 e0
  have HCL := Lib.hid (And.intro (And.intro a0 (And.intro a1 (And.intro a2 a3))) (And.intro e0 (And.intro e1 (And.intro e2 e3))))
  have HNW := Lib.hid (fun W (g : Gr w W) => rows4_news (hB.keep g))
  have HEX := Lib.hid (fun r j => exS_exT t i k r j)
  obtain ⟨i0, hin, hz0, hz1, hz2⟩ := info_parts infoTake
  have HINF := Lib.hid (And.intro hin (And.intro hz0 (And.intro hz1 hz2)))
  have HA1 := Lib.hid hA1; have HA2 := Lib.hid hA2; have HW1 := Lib.hid hW1; have HW2 := Lib.hid hW2; have HSE := Lib.hid hSE; have HC1 := Lib.hid hC1; have HC2 := Lib.hid hC2
  clear hin hz0 hz1 hz2 hA1 hA2 hW1 hW2 hSE hC1 hC2 hP hL hA hB hok hok2 hAE k1 k3 k4 hcc a0 a1 a2 a3 e0 e1 e2 e3
  have p1 : decide ((i : Int) < 0) = false := decide_eq_false (by omega)
  have p2 : decide ((m : Int) ≤ (i : Int)) = false := decide_eq_false (by omega)
  have p3 : decide ((k : Int) < 0) = false := decide_eq_false (by omega)
  have p4 : decide ((m : Int) ≤ (k : Int)) = false := decide_eq_false (by omega)
  have p2' : decide (m ≤ i) = false := decide_eq_false (by omega)
  have p4' : decide (m ≤ k) = false := decide_eq_false (by omega)
  generalize accP t m = u at *
  generalize walkE nm f n t m = E1 at *
  generalize walkE nm f n (exT t i k) m = E2 at *
  generalize walkN nm f n t m = N1 at *
  generalize walkN nm f n (exT t i k) m = N2 at *
  generalize shP f t = s1 at *
  generalize shP f (exT t i k) = s2 at *
  go_enter Tryd.func7, Tryd.ntmps7
  go_wp2_with fail
  go_at_call 10
  refine (dhead_any _ HP.out HLG.out).mono ?_
  rintro e w0 ⟨rfl, hg0⟩
  have HG0 := Lib.hid hg0
  clear hg0
  go_wp2_with fail
  go_at_call 16
  refine (HA1.out _ HG0.out).mono ?_
  rintro e w1 ⟨A1, c1, rfl, hi1, hc1, hg1⟩
  have HG1 := Lib.hid (HG0.out.trans hg1); have HI1 := Lib.hid hi1
  clear hg1 hi1
  go_upto_region 6 with (at_builtin; refine wpList_append_own _ rfl _ _ 23 rfl w1.heap.size 49 i0 (.agg #[.int .i64 0, .int .i64 0, .int .i64 0, .int .i64 0]) 4 32 Tryd.underlying23 HINF.out.1 HINF.out.2.1 HINF.out.2.2.1 HINF.out.2.2.2 rfl (by decide) _ _ _ rfl (own_emptyS (World.alloc_heap_new _ _) (Nat.le_refl _)) ⟨b0, o0, none⟩ m d (cellsQ (row4 t) (m * 4)) rfl (by rw [cellsQ_len]) (HNW.out _ (HG1.out.trans ((Gr.refl _).alloc _))) (cellsQ_one (fun _ _ => rfl)) (by unfold maxLen; omega) (by omega) (by simp) ?_; intro lv' w3 hown1 hgrow hnil; replace hgrow : (w1.alloc (.cells #[] 49)).grownBy w3 (some w1.heap.size) := hgrow)
  rw [Nat.zero_add, List.nil_append] at hown1
  have hg3 : Gr w1 w3 := Below.trans ((Gr.refl w1).alloc _) ((Below.refl w1.heap.size _).grown hgrow (by simp) (fun k hk => by cases hk; exact Nat.le_refl _))
  obtain ⟨g, cap, rfl, hgb, -⟩ := hown1.form (show 0 < m by omega)
  have HX3 := Lib.hid (rowX_of (rowG_of_own hown1 rfl))
  have HQ3 := Lib.hid hg3
  have hcap := own_cap1 hown1
  have hbg : b0 ≠ g := by have := HG1.out.le; omega
  have hgl := HX3.out.1
  clear hown1 hgrow hnil hg3
  have hgw : w1.heap.size ≤ g := hgb
  obtain ⟨⟨a0, a1, a2, a3⟩, e0, e1, e2, e3⟩ := HCL.out
  have kk : ∀ o, w3.cell? ⟨b0, o, none⟩ = w.cell? ⟨b0, o, none⟩ := fun o => Below.cell (p := ⟨b0, o, none⟩) (HG1.out.trans HQ3.out) hb0
  rw [← kk] at a0 a1 a2 a3 e0 e1 e2 e3
  have gi0 := HX3.out.2.2 i hi 0 (by omega); have gi1 := HX3.out.2.2 i hi 1 (by omega); have gi2 := HX3.out.2.2 i hi 2 (by omega); have gi3 := HX3.out.2.2 i hi 3 (by omega)
  have gk0 := HX3.out.2.2 k hk 0 (by omega); have gk1 := HX3.out.2.2 k hk 1 (by omega); have gk2 := HX3.out.2.2 k hk 2 (by omega); have gk3 := HX3.out.2.2 k hk 3 (by omega)
  simp only [Nat.add_zero] at gi0 gk0
  have gfz := HX3.out.2.1
  have hbl : b0 < w3.heap.size := Nat.lt_of_lt_of_le hb0 (HG1.out.trans HQ3.out).le
  have hgx := HX3.out.1
  clear kk
  have HS4 := Lib.hid (HX3.out.four hi (t k 0) (t k 1) (t k 2) (t k 3))
  have HT4 : Hid (Gr w1 ((((w3.setCell ⟨g, i * 4, none⟩ (.int .i64 (t k 0))).setCell ⟨g, i * 4 + 1, none⟩ (.int .i64 (t k 1))).setCell ⟨g, i * 4 + 2, none⟩ (.int .i64 (t k 2))).setCell ⟨g, i * 4 + 3, none⟩ (.int .i64 (t k 3)))) := Lib.hid (by repeat (first | with_reducible exact HQ3.out | with_reducible refine Gr.setCell ?_ (show w1.heap.size ≤ g by omega) _))
  go_upto_region 7 with fail
  generalize ((((w3.setCell ⟨g, i * 4, none⟩ (.int .i64 (t k 0))).setCell ⟨g, i * 4 + 1, none⟩ (.int .i64 (t k 1))).setCell ⟨g, i * 4 + 2, none⟩ (.int .i64 (t k 2))).setCell ⟨g, i * 4 + 3, none⟩ (.int .i64 (t k 3))) = w4 at HS4 HT4 ⊢
  obtain ⟨f4, hf4⟩ : ∃ F : Nat → Nat → Int, F = (fun r j => if r = i then (if j = 0 then t k 0 else if j = 1 then t k 1 else if j = 2 then t k 2 else t k 3) else t r j) := ⟨_, rfl⟩
  rw [← hf4] at HS4
  have HF4 := Lib.hid hf4
  clear a0 a1 a2 a3 e0 e1 e2 e3 gi0 gi1 gi2 gi3 gk0 gk1 gk2 gk3 gfz hbl hgx hf4
  obtain ⟨⟨a0, a1, a2, a3⟩, e0, e1, e2, e3⟩ := HCL.out
  have kk : ∀ o, w4.cell? ⟨b0, o, none⟩ = w.cell? ⟨b0, o, none⟩ := fun o => Below.cell (p := ⟨b0, o, none⟩) (HG1.out.trans HT4.out) hb0
  rw [← kk] at a0 a1 a2 a3 e0 e1 e2 e3
  have gi0 := HS4.out.2.2 i hi 0 (by omega); have gi1 := HS4.out.2.2 i hi 1 (by omega); have gi2 := HS4.out.2.2 i hi 2 (by omega); have gi3 := HS4.out.2.2 i hi 3 (by omega)
  have gk0 := HS4.out.2.2 k hk 0 (by omega); have gk1 := HS4.out.2.2 k hk 1 (by omega); have gk2 := HS4.out.2.2 k hk 2 (by omega); have gk3 := HS4.out.2.2 k hk 3 (by omega)
  simp only [Nat.add_zero] at gi0 gk0
  have gfz := HS4.out.2.1
  have hbl : b0 < w4.heap.size := Nat.lt_of_lt_of_le hb0 (HG1.out.trans HT4.out).le
  have hgx := HS4.out.1
  clear kk
  have HS5 := Lib.hid (HS4.out.set hi (c := 0) (by omega) (t i 0) (o := i * 4) rfl)
  have HT5 : Hid (Gr w1 (w4.setCell ⟨g, i * 4, none⟩ (.int .i64 (t i 0)))) := Lib.hid (HT4.out.setCell (show w1.heap.size ≤ g by omega) _)
  go_upto_region 8 with fail
  generalize w4.setCell ⟨g, i * 4, none⟩ (.int .i64 (t i 0)) = w5 at HS5 HT5 ⊢
  obtain ⟨f5, hf5⟩ : ∃ F : Nat → Nat → Int, F = (fun r' j => if r' = i ∧ j = 0 then t i 0 else f4 r' j) := ⟨_, rfl⟩
  rw [← hf5] at HS5
  have HF5 := Lib.hid hf5
  clear a0 a1 a2 a3 e0 e1 e2 e3 gi0 gi1 gi2 gi3 gk0 gk1 gk2 gk3 gfz hbl hgx hf5
  obtain ⟨⟨a0, a1, a2, a3⟩, e0, e1, e2, e3⟩ := HCL.out
  have kk : ∀ o, w5.cell? ⟨b0, o, none⟩ = w.cell? ⟨b0, o, none⟩ := fun o => Below.cell (p := ⟨b0, o, none⟩) (HG1.out.trans HT5.out) hb0
  rw [← kk] at a0 a1 a2 a3 e0 e1 e2 e3
  have gi0 := HS5.out.2.2 i hi 0 (by omega); have gi1 := HS5.out.2.2 i hi 1 (by omega); have gi2 := HS5.out.2.2 i hi 2 (by omega); have gi3 := HS5.out.2.2 i hi 3 (by omega)
  have gk0 := HS5.out.2.2 k hk 0 (by omega); have gk1 := HS5.out.2.2 k hk 1 (by omega); have gk2 := HS5.out.2.2 k hk 2 (by omega); have gk3 := HS5.out.2.2 k hk 3 (by omega)
  simp only [Nat.add_zero] at gi0 gk0
  have gfz := HS5.out.2.1
  have hbl : b0 < w5.heap.size := Nat.lt_of_lt_of_le hb0 (HG1.out.trans HT5.out).le
  have hgx := HS5.out.1
  clear kk
  have HS6 := Lib.hid (HS5.out.four hk (t i 0) (t i 1) (t i 2) (t i 3))
  have HT6 : Hid (Gr w1 ((((w5.setCell ⟨g, k * 4, none⟩ (.int .i64 (t i 0))).setCell ⟨g, k * 4 + 1, none⟩ (.int .i64 (t i 1))).setCell ⟨g, k * 4 + 2, none⟩ (.int .i64 (t i 2))).setCell ⟨g, k * 4 + 3, none⟩ (.int .i64 (t i 3)))) := Lib.hid (by repeat (first | with_reducible exact HT5.out | with_reducible refine Gr.setCell ?_ (show w1.heap.size ≤ g by omega) _))
  go_upto_region 9 with fail
  generalize ((((w5.setCell ⟨g, k * 4, none⟩ (.int .i64 (t i 0))).setCell ⟨g, k * 4 + 1, none⟩ (.int .i64 (t i 1))).setCell ⟨g, k * 4 + 2, none⟩ (.int .i64 (t i 2))).setCell ⟨g, k * 4 + 3, none⟩ (.int .i64 (t i 3))) = w6 at HS6 HT6 ⊢
  obtain ⟨f6, hf6⟩ : ∃ F : Nat → Nat → Int, F = (fun r j => if r = k then (if j = 0 then t i 0 else if j = 1 then t i 1 else if j = 2 then t i 2 else t i 3) else f5 r j) := ⟨_, rfl⟩
  rw [← hf6] at HS6
  have HF6 := Lib.hid hf6
  clear a0 a1 a2 a3 e0 e1 e2 e3 gi0 gi1 gi2 gi3 gk0 gk1 gk2 gk3 gfz hbl hgx hf6
  obtain ⟨⟨a0, a1, a2, a3⟩, e0, e1, e2, e3⟩ := HCL.out
  have kk : ∀ o, w6.cell? ⟨b0, o, none⟩ = w.cell? ⟨b0, o, none⟩ := fun o => Below.cell (p := ⟨b0, o, none⟩) (HG1.out.trans HT6.out) hb0
  rw [← kk] at a0 a1 a2 a3 e0 e1 e2 e3
  have gi0 := HS6.out.2.2 i hi 0 (by omega); have gi1 := HS6.out.2.2 i hi 1 (by omega); have gi2 := HS6.out.2.2 i hi 2 (by omega); have gi3 := HS6.out.2.2 i hi 3 (by omega)
  have gk0 := HS6.out.2.2 k hk 0 (by omega); have gk1 := HS6.out.2.2 k hk 1 (by omega); have gk2 := HS6.out.2.2 k hk 2 (by omega); have gk3 := HS6.out.2.2 k hk 3 (by omega)
  simp only [Nat.add_zero] at gi0 gk0
  have gfz := HS6.out.2.1
  have hbl : b0 < w6.heap.size := Nat.lt_of_lt_of_le hb0 (HG1.out.trans HT6.out).le
  have hgx := HS6.out.1
  clear kk
  have HS7 := Lib.hid (HS6.out.set hk (c := 0) (by omega) (t k 0) (o := k * 4) rfl)
  have HT7 : Hid (Gr w1 (w6.setCell ⟨g, k * 4, none⟩ (.int .i64 (t k 0)))) := Lib.hid (HT6.out.setCell (show w1.heap.size ≤ g by omega) _)
  go_upto_region 10 with fail
  generalize w6.setCell ⟨g, k * 4, none⟩ (.int .i64 (t k 0)) = w7 at HS7 HT7 ⊢
  obtain ⟨f7, hf7⟩ : ∃ F : Nat → Nat → Int, F = (fun r' j => if r' = k ∧ j = 0 then t k 0 else f6 r' j) := ⟨_, rfl⟩
  rw [← hf7] at HS7
  have HF7 := Lib.hid hf7
  clear a0 a1 a2 a3 e0 e1 e2 e3 gi0 gi1 gi2 gi3 gk0 gk1 gk2 gk3 gfz hbl hgx hf7
  have HR7 : Hid (RowsAt w7 4 (some ⟨g, 0, none⟩) m (exT t i k)) := Lib.hid (HS7.out.rows fun r _ j hj => by
    rw [← HEX.out, HF7.out, HF6.out, HF5.out, HF4.out]
    exact exFin t i k r j hj)
  have HG7 := Lib.hid (HG1.out.trans HT7.out)
  have HI7 := Lib.hid (HI1.out.keep HT7.out)
  have hg7l := HG7.out.le
  clear HS4 HS5 HS6 HS7 HT4 HT5 HT6 HT7 HF4 HF5 HF6 HF7 HQ3 HI1 HX3 hgl hgw hgb hbg
  go_wp2_with fail
  go_at_call 16
  refine (HA2.out _ HG7.out _ cap HR7.out).mono ?_
  rintro e w8 ⟨A8, c8, rfl, hi8, hc8, hg8⟩
  have HG8 := Lib.hid (HG7.out.trans hg8); have HI8 := Lib.hid hi8; have HJ8 := Lib.hid (HI7.out.keep hg8); have HR8 := Lib.hid (HR7.out.keep hg8)
  clear hi8 hg8 HI7 HR7
  go_wp2_with fail
  go_at_call 11
  refine (HW1.out _ HG8.out).mono ?_
  rintro e w9 ⟨A9, c9, rfl, hr9, hg9⟩
  have HG9 := Lib.hid (HG8.out.trans hg9); have HI9 := Lib.hid (HI8.out.keep hg9); have HJ9 := Lib.hid (HJ8.out.keep hg9); have HR9 := Lib.hid (HR8.out.keep hg9); have HX9 := Lib.hid hr9
  clear hr9 hg9 HI8 HJ8 HR8
  go_wp2_with fail
  go_at_call 11
  refine (HW2.out _ HG9.out _ cap HR9.out).mono ?_
  rintro e wa ⟨Aa, ca', rfl, hra, hga⟩
  have HGA := Lib.hid (HG9.out.trans hga); have HIA := Lib.hid (HI9.out.keep hga); have HJA := Lib.hid (HJ9.out.keep hga); have HXA := Lib.hid (HX9.out.keep hga); have HYA := Lib.hid hra
  clear hra hga HI9 HJ9 HR9 HX9
  go_wp2_with fail
  go_at_call 21
  refine (same16_any A1 A8 n c1 n c8 u u _ HJA.out HIA.out (by omega)).mono ?_
  rintro e wb ⟨rfl, hgb⟩
  have HGB := Lib.hid (HGA.out.trans hgb); have HXB := Lib.hid (HXA.out.keep hgb); have HYB := Lib.hid (HYA.out.keep hgb)
  clear hgb HIA HJA HXA HYA
  rw [show (decide (n = n) && eqTo u u n) = true by rw [decide_eq_true rfl, Bool.true_and, eqTo_iff]; exact fun _ _ => rfl]
  rcases HC1.out with ⟨rfl, hN1, -, -⟩ | ⟨hE, rfl⟩
  · rcases HC2.out with ⟨rfl, hN2, -, -⟩ | ⟨hE, rfl⟩
    · obtain rfl : N2 = N1 := by omega
      obtain ⟨bx, ox, rfl, hbx, x0, x1, x2, x3, x4, x5⟩ := HXB.out.six (k := m) (by omega)
      obtain ⟨by', oy, rfl, hby, y0, y1, y2, y3, y4, y5⟩ := HYB.out.six (k := m) (by omega)
      rw [← HSE.out] at y0 y1 y2 y3 y4 y5
      have z0 : ((N2 : Int) == (N2 : Int)) = true := by simp
      have z1 : decide (0 < (N2 : Int)) = true := decide_eq_true (by omega)
      have z1' : decide (0 < N2) = true := decide_eq_true (by omega)
      have z2 : IntKind.i64.wrap ((N2 : Int) - 1) = (m : Int) := (IntWalk.i64_in _ ⟨by omega, by omega⟩).trans (by omega)
      have z3 : (0 : Int) ≤ (m : Int) := by omega
      have z4 : (m : Int) < (N2 : Int) := by omega
      have z5 : m < N2 := by omega
      have z6 : decide ((m : Int) < (N2 : Int)) = true := decide_eq_true (by omega)
      clear hN1 hN2
      generalize s1 m 0 = v0 at *
      generalize s1 m 1 = v1 at *
      generalize s1 m 2 = v2 at *
      generalize s1 m 3 = v3 at *
      generalize s1 m 4 = v4 at *
      generalize s1 m 5 = v5 at *
      have HQ := eq6V_yes v0 v1 v2 v3 v4 v5
      go_wp2_with fail
      go_quiet (fail)
      go_wp2_with fail
      go_ret
      exact ⟨rfl, HGB.out.trans ((Gr.refl _).drewN _)⟩
    · have hEb : (E2 != 0) = true := by rcases hE with rfl | rfl <;> rfl
      go_wp2_with fail
      go_ret
      exact ⟨rfl, HGB.out⟩
  · have hEb : (E1 != 0) = true := by rcases hE with rfl | rfl <;> rfl
    go_wp2_with fail
    go_ret
    exact ⟨rfl, HGB.out⟩
theorem dorder_law (A B : Option Addr) (n ca m d : Nat) (nm : Nat → ByteArray) (f t : Nat → Nat → Int) (x y : Int) (w : World) (hP : Primes w) (hL : Logs w) (hA : NamedAt w A n nm f) (hB : RowsAt w 4 B m t) :
    Calls Tryd.prog 7 #[.slice A n ca, .slice B m d, .int .i64 x, .int .i64 y] w fun e w' => e = .returned (.bool true) ∧ Gr w w' := by
  rcases btf (walkOk nm f n t m) with h | h
  · by_cases hxy : 0 ≤ x ∧ x < (m : Int) ∧ 0 ≤ y ∧ y < (m : Int)
    · obtain ⟨i, rfl⟩ := Int.eq_ofNat_of_zero_le hxy.1
      obtain ⟨k, rfl⟩ := Int.eq_ofNat_of_zero_le hxy.2.2.1
      exact dorder_in A B n ca m d nm f t i k w hP hL hA hB h (by omega) (by omega)
    · exact dorder_bad A B n ca m d nm f t x y w hP hL hA hB (.inr ⟨h, hxy⟩)
  · exact dorder_bad A B n ca m d nm f t x y w hP hL hA hB (.inl h)
end Go.Proofs.YtelhmdhhabgihaaDoor
