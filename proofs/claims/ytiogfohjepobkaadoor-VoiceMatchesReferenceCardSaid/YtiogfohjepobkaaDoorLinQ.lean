/-
  A copy of a slice that the call has made by append: its cells, and stores into it.
  schismalaw14.later: a line that begins later.
  Lines of sung notes: of a part at the head of a line, and of a line that begins later (plain words).
-/
import Derived.Test.YtiogfohjepobkaaDoorHeld
import Derived.Deep.AppendLies
import Derived.Test.YtiogfohjepobkaaDoorVHd
import Derived.Test.YtiogfohjepobkaaDoorLine2
namespace Go.Proofs.YtiogfohjepobkaaDoor
open Go.RowKit

theorem gr_grown {W W' : World} (h : W.grownBy W' none) : Gr W W' := (Below.refl _ _).grown h (Nat.le_refl _) (fun _ h => by cases h)
theorem wf_u8 {i : Int} (h : (Lit.int .u8 i).wf = true) : 0 ≤ i ∧ i ≤ 255 := by
  simp only [Lit.wf, Bool.and_eq_true, decide_eq_true_eq] at h
  have a : IntKind.u8.min = 0 := by decide
  have b : IntKind.u8.max = 255 := by decide
  rw [a, b] at h
  exact h
theorem wf_u16 {i : Int} (h : (Lit.int .u16 i).wf = true) : 0 ≤ i ∧ i ≤ 65535 := by
  simp only [Lit.wf, Bool.and_eq_true, decide_eq_true_eq] at h
  have a : IntKind.u16.min = 0 := by decide
  have b : IntKind.u16.max = 65535 := by decide
  rw [a, b] at h
  exact h
/-- The first N values. -/
def cellsQ (q : Nat → Value) (N : Nat) : List Value := (List.range N).map q
theorem cellsQ_len (q : Nat → Value) (N : Nat) : (cellsQ q N).length = N := by simp [cellsQ]
theorem cellsQ_at (q : Nat → Value) (N : Nat) {j : Nat} (hj : j < N) : (cellsQ q N)[j]? = some (q j) := by simp [cellsQ, hj]
theorem cellsQ_one {q : Nat → Value} {N : Nat} (h : ∀ j, j < N → (q j).oneCell' = true) : ∀ u ∈ cellsQ q N, u.oneCell' = true := by
  intro u hu
  simp only [cellsQ, List.mem_map, List.mem_range] at hu
  obtain ⟨j, hj, rfl⟩ := hu
  exact h j hj
theorem cellsQ_news {w : World} {b off N : Nat} {q : Nat → Value} (h : ∀ j, j < N → w.cell? ⟨b, off + j, none⟩ = some (q j)) : ∀ j u, (cellsQ q N)[j]? = some u → w.cell? ((⟨b, off, none⟩ : Addr).add j) = some u := by
  intro j u hj
  have hlt := (List.getElem?_eq_some_iff.1 hj).1
  rw [cellsQ_len] at hlt
  rw [cellsQ_at q N hlt] at hj
  cases hj
  have hc := h j hlt
  unfold Addr.add
  split
  · rename_i e0
    have : off + j = off := by omega
    simp_all
  · exact hc

/-- N cells, q, lie at the head of block g, which may be written. -/
structure RowG (W : World) (g N : Nat) (q : Nat → Value) : Prop where
  lt : g < W.heap.size
  froz : ∀ o, W.frozen? ⟨g, o, none⟩ = false
  cell : ∀ i, i < N → W.cell? ⟨g, i, none⟩ = some (q i)
theorem RowG.keep {W W' : World} {g N : Nat} {q : Nat → Value} (h : RowG W g N q) (k : Gr W W') : RowG W' g N q :=
  ⟨Nat.lt_of_lt_of_le h.lt k.le, fun o => (Below.frozen (p := ⟨g, o, none⟩) k h.lt).trans (h.froz o), fun i hi => (Below.cell (p := ⟨g, i, none⟩) k h.lt).trans (h.cell i hi)⟩
theorem RowG.drew {W : World} {g N : Nat} {q : Nat → Value} (h : RowG W g N q) : RowG W.drew g N q := h.keep (Gr.refl W).drew
theorem RowG.other {W : World} {g N : Nat} {q : Nat → Value} (h : RowG W g N q) {p : Addr} (hp : p.block ≠ g) (v : Value) : RowG (W.setCell p v) g N q :=
  ⟨by simpa using h.lt, fun o => by rw [World.frozen?_setCell]; exact h.froz o, fun i hi => by
    rw [World.cell?_setCell_other]
    · exact h.cell i hi
    · rintro rfl; exact hp rfl⟩
theorem RowG.set {W : World} {g N i : Nat} {q : Nat → Value} (h : RowG W g N q) (hi : i < N) (v : Value) : RowG (W.setCell ⟨g, i, none⟩ v) g N (fun j => if j = i then v else q j) :=
  ⟨by simpa using h.lt, fun o => by rw [World.frozen?_setCell]; exact h.froz o, fun j hj => by
    by_cases e : j = i
    · subst e
      rw [World.cell?_setCell_same' _ _ _ (by rw [h.cell j hj]; rfl)]
      simp
    · rw [World.cell?_setCell_other, h.cell j hj, if_neg e]
      intro e2; cases e2; exact e rfl⟩
theorem RowG.congr {W : World} {g N : Nat} {q q' : Nat → Value} (h : RowG W g N q) (he : ∀ j, j < N → q j = q' j) : RowG W g N q' := ⟨h.lt, h.froz, fun i hi => by rw [← he i hi]; exact h.cell i hi⟩
theorem rowG_of_own {W : World} {base e n size cap g N : Nat} {q : Nat → Value} (h : W.ownsRow base e size (.slice (some ⟨g, 0, none⟩) n cap) n (cellsQ q N)) (hN : N = n * size) : RowG W g N q := by
  refine ⟨(h.lt g rfl).2, fun o => h.frozenAt o, fun i hi => ?_⟩
  rw [h.cellAt i (by rw [← hN]; exact hi)]
  exact cellsQ_at q N hi
/-- What append to an empty slice has made. -/
theorem copied {W W' : World} {B e n size N : Nat} {q : Nat → Value} {v : Value} (ho : W'.ownsRow B e size v n (cellsQ q N)) (hg : W.grownBy W' none) (hn : 0 < n) (hN : N = n * size) :
    ∃ g cap, v = .slice (some ⟨g, 0, none⟩) n cap ∧ B ≤ g ∧ RowG W' g N q ∧ Gr W W' := by
  obtain ⟨g, cap, rfl, hb, -⟩ := ho.form hn
  exact ⟨g, cap, rfl, hb, rowG_of_own ho hN, gr_grown hg⟩
end Go.Proofs.YtiogfohjepobkaaDoor

namespace Go.Proofs.YtiogfohjepobkaaDoor
open Go.RowKit

/-- The first j notes begin and end later. -/
def latF (f : Nat → Nat → Int) (y : Int) (j : Nat) (i c : Nat) : Int := if i < j ∧ c < 2 then f i c + y else f i c
/-- The cells of rows of eight. -/
def row8 (f : Nat → Nat → Int) (p : Nat) : Value := .int .i64 (f (p / 8) (p % 8))
theorem rows8_news {W : World} {b off n : Nat} {f : Nat → Nat → Int} (h : RowsAt W 8 (some ⟨b, off, none⟩) n f) : ∀ j u, (cellsQ (row8 f) (n * 8))[j]? = some u → W.cell? ((⟨b, off, none⟩ : Addr).add j) = some u :=
  cellsQ_news (fun j hj => by
    obtain ⟨b', off', e, -, hc⟩ := h (by omega)
    cases e
    have := hc (j / 8) (by omega) (j % 8) (by omega)
    rw [show off + j / 8 * 8 + j % 8 = off + j by omega] at this
    exact this)
theorem rows8_rowG {W : World} {g n : Nat} {q : Nat → Value} {f : Nat → Nat → Int} (h : RowG W g (n * 8) q) (hq : ∀ i j, i < n → j < 8 → q (i * 8 + j) = .int .i64 (f i j)) : RowsAt W 8 (some ⟨g, 0, none⟩) n f :=
  fun _ => ⟨g, 0, rfl, h.lt, fun i hi j hj => by rw [Nat.zero_add, h.cell (i * 8 + j) (by omega), hq i j hi hj]⟩
theorem row8_at (f : Nat → Nat → Int) (i j : Nat) (hj : j < 8) : row8 f (i * 8 + j) = .int .i64 (f i j) := by
  unfold row8
  rw [show (i * 8 + j) / 8 = i by omega, show (i * 8 + j) % 8 = j by omega]
theorem infoSung : (Tryd.prog.info? 57).map (fun i => (i.zero, i.size, i.bytes)) = some (some (.agg #[.int .i64 0, .int .i64 0, .int .i64 0, .int .i64 0, .int .i64 0, .int .i64 0, .int .i64 0, .int .i64 0]), 8, 64) := by kernel_rfl
/-- What later returns. -/
def LaterP (f : Nat → Nat → Int) (y : Int) (n : Nat) (w : World) (e : Ending) (w' : World) : Prop := ∃ (A : Option Addr) (c : Nat), e = .returned (.slice A n c) ∧ RowsAt w' 8 A n (latF f y n) ∧ Gr w w'

set_option maxRecDepth 100000 in
set_option maxHeartbeats 16000000 in
theorem later_none (A : Option Addr) (c : Nat) (f : Nat → Nat → Int) (y : Int) (w : World) : Calls Tryd.prog 29 #[.slice A 0 c, .int .i64 y] w (LaterP f y 0 w) := by
  cases A with
  | none =>
    go_enter Tryd.func29, Tryd.ntmps29
    go_wp2_with fail
    go_loopw [6] (fun i wr => i = .int .i64 0 ∧ Gr w wr) (fun _ _ => 0)
    case atStart => exact ⟨rfl, (by repeat (first | with_reducible exact Gr.refl _ | with_reducible refine Gr.alloc ?_ _ | with_reducible refine Gr.drew ?_ | with_reducible refine Gr.trans ?_ (by assumption) | with_reducible refine Gr.setCell ?_ (by (try simp); (try omega)) _))⟩
    case round =>
      obtain ⟨rfl, hg⟩ := hrel
      go_wp2_with fail
      go_ret
      exact ⟨_, _, rfl, fun h => absurd h (by omega), hg⟩
  | some a =>
    go_enter Tryd.func29, Tryd.ntmps29
    go_wp2_with fail
    go_loopw [6] (fun i wr => i = .int .i64 0 ∧ Gr w wr) (fun _ _ => 0)
    case atStart => exact ⟨rfl, (by repeat (first | with_reducible exact Gr.refl _ | with_reducible refine Gr.alloc ?_ _ | with_reducible refine Gr.drew ?_ | with_reducible refine Gr.trans ?_ (by assumption) | with_reducible refine Gr.setCell ?_ (by (try simp); (try omega)) _))⟩
    case round =>
      obtain ⟨rfl, hg⟩ := hrel
      go_wp2_with fail
      go_ret
      exact ⟨_, _, rfl, fun h => absurd h (by omega), hg⟩

set_option maxRecDepth 100000 in
set_option maxHeartbeats 16000000 in
theorem later_some (b off : Nat) (n c : Nat) (f : Nat → Nat → Int) (y : Int) (w : World) (hA : RowsAt w 8 (some ⟨b, off, none⟩) n f) (hn0 : 0 < n) (hn : n ≤ 200) (hf : ∀ j, j < n → 0 ≤ f j 0 ∧ f j 0 ≤ 100000 ∧ 0 ≤ f j 1 ∧ f j 1 ≤ 100000) (hy : 0 ≤ y ∧ y ≤ 65535) :
    Calls Tryd.prog 29 #[.slice (some ⟨b, off, none⟩) n c, .int .i64 y] w (LaterP f y n w) := by
  have HA := Lib.hid hA; have HF := Lib.hid hf
  clear hA hf
  obtain ⟨hy0, hy1⟩ := hy
  obtain ⟨b', off', e, hbb, -⟩ := HA.out hn0
  cases e
  obtain ⟨i0, hi, hz0, hz1, hz2⟩ := info_parts infoSung
  go_enter Tryd.func29, Tryd.ntmps29
  go_wp2_with (at_builtin; refine wpList_append_grows _ rfl (.tmp 7) (.tmp 8) 29 rfl 57 i0 (.agg #[.int .i64 0, .int .i64 0, .int .i64 0, .int .i64 0, .int .i64 0, .int .i64 0, .int .i64 0, .int .i64 0]) 8 64 Tryd.underlying29 hi hz0 hz1 hz2 rfl (by decide) _ 0 0 [] rfl (by intro h; cases h) rfl (by intro b hb j u hu; simp at hu) ⟨b, off, none⟩ n c (cellsQ (row8 f) (n * 8)) rfl (cellsQ_len _ _) (rows8_news (HA.out.keep (by repeat (first | with_reducible exact Gr.refl _ | with_reducible refine Gr.alloc ?_ _ | with_reducible refine Gr.drew ?_ | with_reducible refine Gr.trans ?_ (by assumption) | with_reducible refine Gr.setCell ?_ (by (try simp); (try omega)) _)))) (cellsQ_one (fun _ _ => rfl)) (by omega) (by unfold maxLen; omega) (by omega) ?grow)
  case grow =>
    intro v' w3 hown hgrow
    obtain ⟨g, cap, rfl, hg1, HR0, hgr⟩ := copied (size := 8) hown hgrow hn0 rfl
    have hgw : Gr w w3 := (((Gr.refl w).alloc _).trans hgr)
    have hgb : w.heap.size ≤ g := by (try simp only [World.size_alloc] at hg1); omega
    have HGW := Lib.hid hgw; have HR := Lib.hid HR0
    clear hown hgrow hgr hgw HR0 hi hz0 hz1 hz2 hg1
    go_wp2_with fail
    go_loopw [6] (fun i wr => ∃ j : Nat, j ≤ n ∧ i = .int .i64 j ∧ RowG wr g (n * 8) (row8 (latF f y j)) ∧ Gr w wr) (fun i _ => n - (intOf i).toNat)
    case atStart => exact ⟨0, Nat.zero_le _, rfl, HR.out.congr (fun p _ => by simp [row8, latF]), HGW.out⟩
    case round =>
      obtain ⟨j, hj, rfl, hr, hg⟩ := hrel
      have HRJ := Lib.hid hr; have HG := Lib.hid hg
      clear hr hg
      by_cases hlt : j < n
      · have c0 := HRJ.out.cell (j * 8) (by omega)
        have c1 := HRJ.out.cell (j * 8 + 1) (by omega)
        have e0 : row8 (latF f y j) (j * 8) = .int .i64 (f j 0) := (row8_at _ j 0 (by omega)).trans (by simp [latF])
        have e1 : row8 (latF f y j) (j * 8 + 1) = .int .i64 (f j 1) := (row8_at _ j 1 (by omega)).trans (by simp [latF])
        rw [e0] at c0
        rw [e1] at c1
        have f0 := HRJ.out.froz (j * 8)
        have f1 := HRJ.out.froz (j * 8 + 1)
        have hgl := HRJ.out.lt
        obtain ⟨q0, q1, q2, q3⟩ := HF.out j hlt
        have hw0 : IntKind.i64.wrap (f j 0 + y) = f j 0 + y := IntWalk.i64_in _ ⟨by omega, by omega⟩
        have hw1 : IntKind.i64.wrap (f j 1 + y) = f j 1 + y := IntWalk.i64_in _ ⟨by omega, by omega⟩
        obtain ⟨wp, rfl⟩ : ∃ wp : World, wp = wr := ⟨_, rfl⟩
        clear e0 e1
        have HN : Hid (RowG ((wp.setCell ⟨g, j * 8, none⟩ (.int .i64 (f j 0 + y))).setCell ⟨g, j * 8 + 1, none⟩ (.int .i64 (f j 1 + y))) g (n * 8) (row8 (latF f y (j + 1)))) := Lib.hid (((HRJ.out.set (i := j * 8) (by omega) _).set (i := j * 8 + 1) (by omega) _).congr (fun p hp => by
          show (if p = j * 8 + 1 then Value.int .i64 (f j 1 + y) else if p = j * 8 then .int .i64 (f j 0 + y) else row8 (latF f y j) p) = row8 (latF f y (j + 1)) p
          by_cases a1 : p = j * 8 + 1
          · subst a1; rw [if_pos rfl, row8_at _ j 1 (by omega)]; simp [latF]
          · rw [if_neg a1]
            by_cases a0 : p = j * 8
            · subst a0; rw [if_pos rfl, show row8 (latF f y (j + 1)) (j * 8) = _ from row8_at _ j 0 (by omega)]; simp [latF]
            · rw [if_neg a0]
              unfold row8 latF
              by_cases a2 : p / 8 < j
              · have : p / 8 < j + 1 := by omega
                simp [a2, this]
              · by_cases a3 : p % 8 < 2
                · have : ¬ p / 8 < j + 1 := by omega
                  simp [a2, this]
                · simp [a3]))
        go_wp2_with fail
        go_roundw
        case rel => exact ⟨j + 1, by omega, by go_num, HN.out, Gr.setCell (Gr.setCell HG.out (by (try simp); omega) _) (by (try simp); omega) _⟩
        case measure => simp [intOf]; omega
      · obtain rfl : n = j := by omega
        obtain ⟨wp, rfl⟩ : ∃ wp : World, wp = wr := ⟨_, rfl⟩
        go_wp2_with fail
        go_ret
        exact ⟨_, _, rfl, rows8_rowG HRJ.out (fun i j _ hj => row8_at _ i j hj), HG.out⟩
/-- later at lines whose ticks are in range. -/
theorem later_ok (A : Option Addr) (n c : Nat) (f : Nat → Nat → Int) (y : Int) (w : World) (hA : RowsAt w 8 A n f) (hn : n ≤ 200) (hf : ∀ j, j < n → 0 ≤ f j 0 ∧ f j 0 ≤ 100000 ∧ 0 ≤ f j 1 ∧ f j 1 ≤ 100000) (hy : 0 ≤ y ∧ y ≤ 65535) :
    Calls Tryd.prog 29 #[.slice A n c, .int .i64 y] w (LaterP f y n w) := by
  by_cases h : n = 0
  · subst h; exact later_none A c f y w
  · obtain ⟨b, off, rfl, -⟩ := hA (by omega)
    exact later_some b off n c f y w hA (by omega) hn hf hy
end Go.Proofs.YtiogfohjepobkaaDoor

namespace Go.Proofs.YtiogfohjepobkaaDoor
open Go.RowKit

theorem singAll_le {lo hi : V6} {st br : Int} {f : Nat → Nat → Int} {a b : Nat} (hab : a ≤ b) (hb : singAll lo hi st br f b = true) : singAll lo hi st br f a = true := by
  induction b with
  | zero => obtain rfl : a = 0 := by omega
            exact hb
  | succ b ih =>
    by_cases e : a = b + 1
    · subst e; exact hb
    · simp only [singAll, Bool.and_eq_true] at hb
      exact ih (by omega) hb.1
theorem lineR_prefix {lo hi : V6} {st br : Int} {f : Nat → Nat → Int} {n k : Nat} {r : Int} (h : LineR lo hi st br f n r) (hk : k ≤ n) : LineR lo hi st br f k (if 0 ≤ r ∧ r < (k : Int) then r else -1) := by
  rcases h with ⟨h1, rfl⟩ | ⟨j, h1, h2, h3, rfl⟩
  · rw [if_neg (by omega)]
    exact Or.inl ⟨singAll_le hk h1, rfl⟩
  · by_cases e : j < k
    · rw [if_pos ⟨by omega, by omega⟩]
      exact Or.inr ⟨j, e, h2, h3, rfl⟩
    · rw [if_neg (by omega)]
      exact Or.inl ⟨singAll_le (by omega) h2, rfl⟩
theorem lineR_range {lo hi : V6} {st br : Int} {f : Nat → Nat → Int} {n : Nat} {r : Int} (h : LineR lo hi st br f n r) : -1 ≤ r ∧ r < (n : Int) := by
  rcases h with ⟨h1, rfl⟩ | ⟨j, h1, h2, h3, rfl⟩ <;> omega
theorem lineGood_prefix {f : Nat → Nat → Int} {n k : Nat} (h : lineGood f n = true) (hk : k ≤ n) : lineGood f k = true := by
  induction n with
  | zero => obtain rfl : k = 0 := by omega
            exact h
  | succ n ih =>
    by_cases e : k = n + 1
    · subst e; exact h
    · simp only [lineGood, Bool.and_eq_true] at h
      exact ih h.1 (by omega)
theorem sungOk_parts {e : Int} {r : Nat → Int} (h : sungOk e r = true) : e ≤ r 0 ∧ r 0 < r 1 ∧ r 1 ≤ 100000 ∧ allIn ⟨r 2, r 3, r 4, r 5, r 6, r 7⟩ 48 6 = true := by
  simp only [sungOk, Bool.and_eq_true, decide_eq_true_eq] at h
  exact ⟨h.1.1, h.1.2.1, h.1.2.2, h.2⟩
theorem line_bounds {f : Nat → Nat → Int} {n : Nat} (h : lineGood f n = true) : ∀ j, j < n → 0 ≤ f j 0 ∧ f j 0 < f j 1 ∧ f j 1 ≤ 100000 := by
  intro j
  induction j with
  | zero => intro hj; have := sungOk_parts (lineGood_le h 0 hj); simp only [lineEnd] at this; omega
  | succ j ih => intro hj; have := sungOk_parts (lineGood_le h (j + 1) hj); have := ih (by omega); simp only [lineEnd] at *; omega
theorem line_rises {f : Nat → Nat → Int} {n : Nat} (h : lineGood f n = true) : ∀ i j, i ≤ j → j < n → f i 1 ≤ f j 1 := by
  intro i j hij hj
  induction j with
  | zero => obtain rfl : i = 0 := by omega
            exact Int.le_refl _
  | succ j ih =>
    by_cases e : i = j + 1
    · subst e; exact Int.le_refl _
    · have h1 := ih (by omega) (by omega)
      have h2 := sungOk_parts (lineGood_le h (j + 1) hj)
      simp only [lineEnd] at h2
      omega

theorem latF0 (f : Nat → Nat → Int) (y : Int) {n j : Nat} (hj : j < n) : latF f y n j 0 = f j 0 + y := by simp [latF, hj]
theorem latF1 (f : Nat → Nat → Int) (y : Int) {n j : Nat} (hj : j < n) : latF f y n j 1 = f j 1 + y := by simp [latF, hj]
theorem latF2 (f : Nat → Nat → Int) (y : Int) (n j c : Nat) (hc : 2 ≤ c) : latF f y n j c = f j c := by unfold latF; rw [if_neg (by omega)]
theorem atN_lat (f : Nat → Nat → Int) (y : Int) (n j : Nat) : atN (latF f y n) j = atN f j := by
  simp only [atN, latF2 f y n j _ (show 2 ≤ 2 by omega), latF2 f y n j _ (show 2 ≤ 3 by omega), latF2 f y n j _ (show 2 ≤ 4 by omega), latF2 f y n j _ (show 2 ≤ 5 by omega), latF2 f y n j _ (show 2 ≤ 6 by omega), latF2 f y n j _ (show 2 ≤ 7 by omega)]
theorem brF_lat (f : Nat → Nat → Int) (y : Int) (n : Nat) : ∀ j, j < n → brF (latF f y n) j = brF f j + y := by
  intro j
  induction j with
  | zero => intro hj; simp only [brF, latF0 f y hj]
  | succ j ih =>
    intro hj
    simp only [brF, latF0 f y hj, latF1 f y (show j < n by omega), ih (by omega)]
    by_cases e : f j 1 < f (j + 1) 0
    · rw [if_pos e, if_pos (by omega)]
    · rw [if_neg e, if_neg (by omega)]
theorem singB_lat (lo hi : V6) (st br : Int) (f : Nat → Nat → Int) (y : Int) (n j : Nat) (hj : j < n) : singB lo hi st br (latF f y n) j = singB lo hi st br f j := by
  have e : latF f y n j 1 - brF (latF f y n) j = f j 1 - brF f j := by rw [latF1 f y hj, brF_lat f y n j hj]; omega
  cases j with
  | zero => simp only [singB, e, atN_lat]
  | succ j => simp only [singB, e, atN_lat]
theorem singAll_lat (lo hi : V6) (st br : Int) (f : Nat → Nat → Int) (y : Int) (n : Nat) : ∀ j, j ≤ n → singAll lo hi st br (latF f y n) j = singAll lo hi st br f j := by
  intro j
  induction j with
  | zero => intro _; rfl
  | succ j ih => intro hj; simp only [singAll, ih (by omega), singB_lat lo hi st br f y n j (by omega)]
theorem lineR_lat {lo hi : V6} {st br : Int} {f : Nat → Nat → Int} {n : Nat} {r y : Int} (h : LineR lo hi st br f n r) : LineR lo hi st br (latF f y n) n r := by
  rcases h with ⟨h1, rfl⟩ | ⟨j, h1, h2, h3, rfl⟩
  · exact Or.inl ⟨by rw [singAll_lat _ _ _ _ _ _ _ n (Nat.le_refl n)]; exact h1, rfl⟩
  · exact Or.inr ⟨j, h1, by rw [singAll_lat _ _ _ _ _ _ _ j (by omega)]; exact h2, by rw [singB_lat _ _ _ _ _ _ _ j h1]; exact h3, rfl⟩
theorem lineGood_lat {f : Nat → Nat → Int} {n : Nat} {y : Int} (h : lineGood f n = true) (hy : 0 ≤ y) (hu : ∀ j, j + 1 = n → f j 1 + y ≤ 100000) : lineGood (latF f y n) n = true := by
  have key : ∀ j, j ≤ n → lineGood (latF f y n) j = true := by
    intro j
    induction j with
    | zero => intro _; rfl
    | succ j ih =>
      intro hj
      have hs := sungOk_parts (lineGood_le h j (by omega))
      have hb : f j 1 + y ≤ 100000 := by
        have h1 := line_rises h j (n - 1) (by omega) (by omega)
        have h2 := hu (n - 1) (by omega)
        omega
      have he : lineEnd (latF f y n) j ≤ f j 0 + y := by
        cases j with
        | zero => simp only [lineEnd] at hs ⊢; omega
        | succ j => simp only [lineEnd, latF1 f y (show j < n by omega)] at hs ⊢; omega
      simp only [lineGood, ih (by omega), Bool.true_and, sungOk, latF0 f y (show j < n by omega), latF1 f y (show j < n by omega), latF2 f y n j _ (show 2 ≤ 2 by omega), latF2 f y n j _ (show 2 ≤ 3 by omega), latF2 f y n j _ (show 2 ≤ 4 by omega), latF2 f y n j _ (show 2 ≤ 5 by omega), latF2 f y n j _ (show 2 ≤ 6 by omega), latF2 f y n j _ (show 2 ≤ 7 by omega), hs.2.2.2, Bool.and_true, decide_eq_true_eq]
      omega
  exact key n (Nat.le_refl n)
theorem lineGood_late {f : Nat → Nat → Int} {n j : Nat} {y : Int} (hj : j + 1 = n) (hu : 100000 < f j 1 + y) : lineGood (latF f y n) n = false := by
  cases e : lineGood (latF f y n) n with
  | false => rfl
  | true =>
    have := sungOk_parts (lineGood_le e j (by omega))
    rw [latF1 f y (show j < n by omega)] at this
    omega
end Go.Proofs.YtiogfohjepobkaaDoor
