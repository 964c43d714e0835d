/-
  Natural numbers as slices of limbs: what a value of the program stands for; Valid, Make, product.
-/
import Derived.Test.YtelhmdhhabgihaaGreatDoorNat2
import Derived.OwnWalk
namespace Go.Proofs.YtelhmdhhabgihaaGreatDoor
open Go.RowKit

/-- n limbs, the numbers u, lie in block b; they stand for N, and the highest one is not 0. -/
structure Lay (w : World) (b n c : Nat) (u : Nat → Int) (N : Int) : Prop where
  lt : b < w.heap.size
  le : n ≤ 640
  nc : n ≤ c
  cc : c ≤ 100000
  cell : ∀ i, i < n → w.cell? ⟨b, i, none⟩ = some (.int .u32 (u i))
  inb : InB u n
  val : fval u n = N
  norm : Norm u n
theorem Lay.keep {w w' : World} {b n c : Nat} {u : Nat → Int} {N : Int} (h : Lay w b n c u N) (g : Gr w w') : Lay w' b n c u N :=
  ⟨Nat.lt_of_lt_of_le h.lt g.le, h.le, h.nc, h.cc, fun i hi => (Below.cell (p := ⟨b, i, none⟩) g h.lt).trans (h.cell i hi), h.inb, h.val, h.norm⟩
/-- A value is a natural number. -/
def IsNat (w : World) (v : Value) (N : Int) : Prop := ∃ b n c u, v = .slice (some ⟨b, 0, none⟩) n c ∧ Lay w b n c u N
theorem IsNat.keep {w w' : World} {v : Value} {N : Int} (h : IsNat w v N) (g : Gr w w') : IsNat w' v N := by
  obtain ⟨b, n, c, u, rfl, hl⟩ := h
  exact ⟨b, n, c, u, rfl, hl.keep g⟩
/-- A call returns a natural number. -/
def NatRes (N : Int) (w : World) (e : Ending) (w' : World) : Prop := ∃ v, e = .returned v ∧ IsNat w' v N ∧ Gr w w'

set_option maxRecDepth 100000 in
set_option maxHeartbeats 1000000 in
theorem natValid_lay (b n c : Nat) (u : Nat → Int) (N : Int) (w : World) (h : Lay w b n c u N) :
    Calls Tryz.prog 58 #[.slice (some ⟨b, 0, none⟩) n c] w fun e w' => e = .returned (.bool true) ∧ Gr w w' := by
  have hle := h.le
  rcases n with - | n
  · clear h
    go_enter Tryz.func58, Tryz.ntmps58
    go_wp2
    go_ret
    exact ⟨rfl, (by repeat (first | with_reducible exact Gr.refl _ | with_reducible refine Gr.alloc ?_ _ | with_reducible refine Gr.drew ?_ | with_reducible refine Gr.trans ?_ (by assumption) | with_reducible refine Gr.setCell ?_ (by (try simp); (try omega)) _))⟩
  · have hx := h.cell n (by omega)
    have hb : (u n != 0) = true := by simpa using h.norm n rfl
    clear h
    generalize u n = x at hx hb
    go_enter Tryz.func58, Tryz.ntmps58
    go_wp2
    go_ret
    exact ⟨rfl, (by repeat (first | with_reducible exact Gr.refl _ | with_reducible refine Gr.alloc ?_ _ | with_reducible refine Gr.drew ?_ | with_reducible refine Gr.trans ?_ (by assumption) | with_reducible refine Gr.setCell ?_ (by (try simp); (try omega)) _))⟩

theorem form_nat (b n c : Nat) (u : Nat → Int) (N : Int) (w : World) (hlt : b < w.heap.size) (hn : n ≤ 2000) (hnc : n ≤ c) (hc : c ≤ 100000)
    (hcell : ∀ i, i < n → w.cell? ⟨b, i, none⟩ = some (.int .u32 (u i))) (hin : InB u n) (hN : fval u n = N) (hlim : N < BB ^ 640) :
    Calls Tryz.prog 77 #[.slice (some ⟨b, 0, none⟩) n c] w (NatRes N w) := by
  have hle := stripF_le u n
  have hv := strip_val u n
  have hin' : InB u (stripF u n) := fun i hi => hin i (by omega)
  have hs : stripF u n ≤ 640 := norm_bound hin' (strip_norm u n) (by omega)
  refine (form_any b n c u w hn hnc hc hcell hs).mono fun e w' ⟨he, hg⟩ => ?_
  refine ⟨_, he, ⟨b, stripF u n, stripF u n, u, rfl, ?_⟩, hg⟩
  exact ⟨Nat.lt_of_lt_of_le hlt hg.le, hs, Nat.le_refl _, by omega, fun i hi => (Below.cell (p := ⟨b, i, none⟩) hg hlt).trans (hcell i (by omega)), hin', hv.trans hN, strip_norm u n⟩
def one1 (x : Int) : Nat → Int := upd (fun _ => 0) 0 x
theorem one1_val (x : Int) : fval (one1 x) 2 = x := by
  show (0 + one1 x 0 * BB ^ 0) + one1 x 1 * BB ^ 1 = x
  simp [one1, upd]
theorem one1_in {x : Int} (h0 : 0 < x) (h1 : x < 4294967296) : InB (one1 x) 2 :=
  upd_in (fun i _ => ⟨Int.le_refl _, by decide⟩) (by omega) h1
theorem lt_BB {x : Int} (n : Nat) (h1 : x < 4294967296) (hn : 1 ≤ n) : x < BB ^ n := by
  have := BB_mono hn
  have e : BB ^ 1 = 4294967296 := rfl
  omega

theorem make_form (x : Int) (w : World) (N : Nat) (h0 : 0 < x) (h1 : x < 4294967296) (hN : w.heap.size = N) :
    Calls Tryz.prog 77 #[.slice (some ⟨N, 0, none⟩) 2 2] (w.alloc (.cells #[.int .u32 x, .int .u32 0] 117)) (NatRes x (w.alloc (.cells #[.int .u32 x, .int .u32 0] 117))) := by
  subst hN
  refine form_nat _ 2 2 (one1 x) x _ (by simp) (by omega) (by omega) (by omega) (fun i hi => ?_) (one1_in h0 h1) (one1_val x) (lt_BB _ h1 (by omega))
  obtain rfl | rfl : i = 0 ∨ i = 1 := by omega
  all_goals simp [go_sem, one1, upd]

set_option maxRecDepth 100000 in
set_option maxHeartbeats 1000000 in
theorem natMake_any (x : Int) (w : World) (h0 : 0 < x) (h1 : x < 4294967296) :
    Calls Tryz.prog 56 #[.int .u64 x] w (NatRes x w) := by
  have hq : x / 4294967296 = 0 := by omega
  go_enter Tryz.func56, Tryz.ntmps56
  go_wp2_with (go_at_call 77; (with_reducible refine (make_form x _ _ h0 h1 (by simp)).mono ?_); rintro e w' ⟨v, rfl, hv, hg⟩)
  go_ret
  exact ⟨v, rfl, hv, (by repeat (first | with_reducible exact Gr.refl _ | with_reducible refine Gr.alloc ?_ _ | with_reducible refine Gr.drew ?_ | with_reducible refine Gr.trans ?_ (by assumption) | with_reducible refine Gr.setCell ?_ (by (try simp); (try omega)) _))⟩

/-- A row of n limbs, u, in block S, while all else below N is as it was in W1. -/
structure RowRel (n : Nat) (u : Nat → Int) (S N : Nat) (W1 wr : World) : Prop where
  but : But S N W1 wr
  size : N ≤ wr.heap.size
  lt : S < N
  cell : ∀ j, j < n → wr.cell? ⟨S, j, none⟩ = some (.int .u32 (u j))
  froz : ∀ j, wr.frozen? ⟨S, j, none⟩ = false
theorem RowRel.drew {n : Nat} {u : Nat → Int} {S N : Nat} {W1 wr : World} (h : RowRel n u S N W1 wr) : RowRel n u S N W1 wr.drew :=
  ⟨h.but.drew, h.size, h.lt, h.cell, h.froz⟩
theorem RowRel.store {n : Nat} {u : Nat → Int} {S N : Nat} {W1 wr : World} (h : RowRel n u S N W1 wr) {k : Nat} (hk : k < n) (v : Int) :
    RowRel n (upd u k v) S N W1 (wr.setCell ⟨S, k, none⟩ (.int .u32 v)) := by
  refine ⟨h.but.setCell (Or.inl rfl) _, by have := h.size; simp; omega, h.lt, fun j hj => ?_, fun j => (World.frozen?_setCell _ _ _ _).trans (h.froz j)⟩
  have hc := h.cell k hk
  by_cases e : j = k
  · subst e; simp [go_sem, hc, upd]
  · have := h.cell j hj
    simp [go_sem, e, this, upd]

/-- How far a product has come: k limbs of the first number are done. -/
structure Outer (n n' : Nat) (u u' : Nat → Int) (S N : Nat) (W1 wr : World) (k : Nat) : Prop where
  rel : ∃ x, RowRel (n + n') x S N W1 wr ∧ InB x (n + n') ∧ (∀ j, k + n' ≤ j → x j = 0) ∧ fval x (n + n') = fval u k * fval u' n'
structure Inner (n n' : Nat) (u u' : Nat → Int) (S N : Nat) (W1 wr : World) (k j : Nat) (c : Int) : Prop where
  rel : ∃ x, RowRel (n + n') x S N W1 wr ∧ InB x (n + n') ∧ (∀ j, k + n' ≤ j → x j = 0) ∧ fval x (n + n') + c * BB ^ (k + j) = fval u k * fval u' n' + u k * fval u' j * BB ^ k

theorem info117' : (Tryz.prog.info? 117).map (fun i => (i.zero, i.size, i.bytes)) = some (some (.int .u32 0), 1, 4) := by kernel_rfl
theorem made_row {w W1 : World} {n : Nat} (hown : W1.ownsRow w.heap.size 117 1 (.slice (some ⟨w.heap.size, 0, none⟩) n n) n (madeCells (Value.int .u32 0).cells (n * 1)).toList) (hg : w.grownBy W1 none) :
    Gr w W1 ∧ RowRel n (fun _ => 0) w.heap.size (w.heap.size + 1) W1 W1 := by
  have hB : Below w.heap.size w W1 := (Below.refl _ _).grown hg (Nat.le_refl _) (fun _ h => by cases h)
  have hlt := (hown.lt _ rfl).2
  refine ⟨hB, But.refl _ _ _, hlt, by omega, fun j hj => ?_, fun j => hown.frozenAt j⟩
  rw [hown.cellAt j (by omega), show (Value.int .u32 0).cells = #[.int .u32 0] from rfl, toList_madeCells_one, List.getElem?_replicate, if_pos (by omega)]
theorem outer_start {n n' : Nat} {u u' : Nat → Int} {S N : Nat} {W1 : World} (h : RowRel (n + n') (fun _ => 0) S N W1 W1) : Outer n n' u u' S N W1 W1 0 :=
  ⟨_, h, fun i _ => ⟨Int.le_refl _, (by decide : (0 : Int) < 4294967296)⟩, fun _ _ => rfl, by rw [fval_zero (k := 0) (Nat.zero_le _) fun _ _ _ => rfl]; show 0 = 0 * _; omega⟩
theorem inner_start {n n' : Nat} {u u' : Nat → Int} {S N : Nat} {W1 wr : World} {k : Nat} (h : Outer n n' u u' S N W1 wr k) : Inner n n' u u' S N W1 wr k 0 0 := by
  obtain ⟨x, h1, h2, h3, h4⟩ := h
  exact ⟨x, h1, h2, h3, by rw [h4]; show _ = _ + u k * 0 * _; grind⟩
theorem Inner.cell {n n' : Nat} {u u' : Nat → Int} {S N : Nat} {W1 wr : World} {k j : Nat} {c : Int} (h : Inner n n' u u' S N W1 wr k j c) (hk : k < n) (hj : j < n') :
    ∃ z, 0 ≤ z ∧ z < 4294967296 ∧ wr.cell? ⟨S, k + j, none⟩ = some (.int .u32 z) ∧ wr.frozen? ⟨S, k + j, none⟩ = false ∧
      ∀ m q, m = (u k * u' j + z + c) % 4294967296 → q = (u k * u' j + z + c) / 4294967296 → Inner n n' u u' S N W1 (wr.setCell ⟨S, k + j, none⟩ (.int .u32 m)) k (j + 1) q := by
  obtain ⟨x, h1, h2, h3, h4⟩ := h
  refine ⟨x (k + j), (h2 _ (by omega)).1, (h2 _ (by omega)).2, h1.cell _ (by omega), h1.froz _, ?_⟩
  rintro m q rfl rfl
  have hm := Int.emod_nonneg (u k * u' j + x (k + j) + c) (b := 4294967296) (by omega)
  have hm' := Int.emod_lt_of_pos (u k * u' j + x (k + j) + c) (b := 4294967296) (by omega)
  refine ⟨_, h1.store (by omega) _, upd_in h2 hm hm', fun i hi => ?_, ?_⟩
  · rw [upd_other _ (by omega)]; exact h3 i hi
  · have := mul_step (show k + j < n + n' by omega) (u k) (u' j) c _ h4
    rw [show k + (j + 1) = k + j + 1 by omega, this]
    show _ = _ + u k * (fval u' j + u' j * BB ^ j) * _
    rw [Int.pow_add]
    grind
theorem Inner.done {n n' : Nat} {u u' : Nat → Int} {S N : Nat} {W1 wr : World} {k : Nat} {c : Int} (h : Inner n n' u u' S N W1 wr k n' c) (hk : k < n) (h0 : 0 ≤ c) (hc : c < 4294967296) :
    (∃ z, wr.cell? ⟨S, k + n', none⟩ = some (.int .u32 z)) ∧ wr.frozen? ⟨S, k + n', none⟩ = false ∧ Outer n n' u u' S N W1 (wr.setCell ⟨S, k + n', none⟩ (.int .u32 c)) (k + 1) := by
  obtain ⟨x, h1, h2, h3, h4⟩ := h
  refine ⟨⟨_, h1.cell _ (by omega)⟩, h1.froz _, _, h1.store (by omega) _, upd_in h2 h0 hc, fun i hi => ?_, ?_⟩
  · rw [upd_other _ (by omega)]; exact h3 i (by omega)
  · rw [fval_upd _ _ _ _ (by omega), h3 _ (Nat.le_refl _)]
    show _ = (fval u k + u k * BB ^ k) * _
    grind
theorem Outer.other {n n' : Nat} {u u' : Nat → Int} {S N : Nat} {W1 wr : World} {k : Nat} (h : Outer n n' u u' S N W1 wr k) {p : Addr} (hp : p.block < S) : wr.cell? p = W1.cell? p := by
  obtain ⟨x, h1, _⟩ := h
  exact h1.but.cell (by have := h1.lt; omega) (by omega)
theorem Inner.other {n n' : Nat} {u u' : Nat → Int} {S N : Nat} {W1 wr : World} {k j : Nat} {c : Int} (h : Inner n n' u u' S N W1 wr k j c) {p : Addr} (hp : p.block < S) : wr.cell? p = W1.cell? p := by
  obtain ⟨x, h1, _⟩ := h
  exact h1.but.cell (by have := h1.lt; omega) (by omega)

theorem Outer.but_gr {n n' : Nat} {u u' : Nat → Int} {S N : Nat} {w W1 wr : World} {k : Nat} (h : Outer n n' u u' S N W1 wr k) (g : Gr w W1) (hS : w.heap.size ≤ S) : Gr w wr := by
  obtain ⟨x, h1, _⟩ := h
  exact g.but h1.but hS (by have := h1.lt; omega)
theorem outer_form {n n' : Nat} {u u' : Nat → Int} {S N : Nat} {W1 wr : World} (h : Outer n n' u u' S N W1 wr n) (hn : n ≤ 640) (hn' : n' ≤ 640) (hlim : fval u n * fval u' n' < BB ^ 640) :
    Calls Tryz.prog 77 #[.slice (some ⟨S, 0, none⟩) (n + n') (n + n')] wr (NatRes (fval u n * fval u' n') wr) := by
  obtain ⟨x, h1, h2, h3, h4⟩ := h
  exact form_nat _ _ _ x _ _ (by have := h1.lt; have := h1.size; omega) (by omega) (Nat.le_refl _) (by omega) (fun i hi => h1.cell i hi) h2 h4 hlim

set_option maxRecDepth 100000 in
set_option maxHeartbeats 4000000 in
theorem product_lay (b n c : Nat) (u : Nat → Int) (A : Int) (b' n' c' : Nat) (u' : Nat → Int) (B : Int) (w : World) (ha : Lay w b n c u A) (hb : Lay w b' n' c' u' B) (hAB : A * B < BB ^ 640) :
    Calls Tryz.prog 92 #[.slice (some ⟨b, 0, none⟩) n c, .slice (some ⟨b', 0, none⟩) n' c'] w (NatRes (A * B) w) := by
  obtain ⟨i0, hi, hz0, hz1, hz2⟩ := info_parts info117'
  have hn := ha.le; have hn' := hb.le
  have HA := Lib.hid ha; have HB := Lib.hid hb; have HAB := Lib.hid hAB
  clear ha hb hAB
  go_enter Tryz.func92, Tryz.ntmps92
  go_wp2_with (at_make; refine wpList_make_full _ rfl _ _ 71 rfl w.heap.size 117 i0 (.int .u32 0) 1 Tryz.underlying71 hi hz0 hz1 _ _ _ _ (n + n') rfl rfl (by simp) (by simp) (by rw [hz2]; omega) (by unfold maxLen; omega) (Nat.le_refl _) ?_; intro W1 hown hgrow)
  obtain ⟨hg1, hr1⟩ := made_row hown hgrow
  have HA1 := Lib.hid (HA.out.keep hg1); have HB1 := Lib.hid (HB.out.keep hg1)
  have HO := Lib.hid (outer_start (u := u) (u' := u') hr1)
  have HL := Lib.hid (And.intro HA.out.lt HB.out.lt)
  clear hr1 hown hgrow HA HB hi hz0 hz1 hz2
  generalize hS : w.heap.size = S at HO HL ⊢
  have HS := Lib.hid (Nat.le_of_eq hS)
  clear hS
  go_loopw [20] (fun v wr => ∃ k : Nat, k ≤ n ∧ v = .int .i64 k ∧ Outer n n' u u' S (S + 1) W1 wr k) (fun v _ => n - (intOf v).toNat)
  case atStart => exact ⟨0, Nat.zero_le _, rfl, HO.out⟩
  case round =>
    obtain ⟨k, hk, rfl, hO⟩ := hrel
    have HO1 := Lib.hid hO
    clear HO hO
    by_cases hlt : k < n
    · have hx := (HO1.out.other (p := ⟨b, k, none⟩) HL.out.1).trans (HA1.out.cell k hlt)
      have hxb := HA1.out.inb k hlt
      have HI := Lib.hid (inner_start HO1.out)
      clear HO1
      obtain ⟨wo, rfl⟩ : ∃ wo : World, wo = wr := ⟨_, rfl⟩
      go_wp2
      go_loopw [8, 27] (fun q v wr => ∃ (j : Nat) (cr : Int), j ≤ n' ∧ v = .int .i64 j ∧ q = .int .u64 cr ∧ 0 ≤ cr ∧ cr < 4294967296 ∧ Inner n n' u u' S (S + 1) W1 wr k j cr) (fun _ v _ => n' - (intOf v).toNat)
      case atStart => exact ⟨0, 0, Nat.zero_le _, rfl, rfl, Int.le_refl _, by decide, HI.out⟩
      case round =>
        obtain ⟨j, cr, hj, rfl, rfl, hc0, hc1, hI⟩ := hrel
        have HI1 := Lib.hid hI
        clear HI hI hx
        by_cases hjt : j < n'
        · have hy := (HI1.out.other (p := ⟨b', j, none⟩) HL.out.2).trans (HB1.out.cell j hjt)
          have hyb := HB1.out.inb j hjt
          obtain ⟨z, hz0, hz1, hzc, hzf, hnext⟩ := HI1.out.cell hlt hjt
          have HN := Lib.hid hnext
          obtain ⟨m1, m2, m3, m4⟩ := mul_fit hxb hyb ⟨hz0, hz1⟩ ⟨hc0, hc1⟩
          clear hnext HI1
          generalize u k = x at *
          generalize u' j = y at *
          go_wp2
          go_roundw
          case rel => exact ⟨j + 1, _, by omega, by go_num, rfl, by omega, by omega, HN.out _ _ rfl rfl⟩
          case measure => simp [intOf]; omega
        · obtain rfl : j = n' := by omega
          obtain ⟨⟨z, hz⟩, hf, hO2⟩ := HI1.out.done hlt hc0 hc1
          have HO2 := Lib.hid hO2
          clear hO2 HI1
          go_wp2
          go_roundw
          case rel => exact ⟨k + 1, by omega, by go_num, HO2.out⟩
          case measure => simp [intOf]; omega
    · obtain rfl : k = n := by omega
      have HF := Lib.hid (outer_form HO1.out hn hn' (by rw [HA1.out.val, HB1.out.val]; exact HAB.out))
      have HG := Lib.hid (HO1.out.but_gr hg1 HS.out)
      clear HO1
      go_wp2_with (go_at_call 77; (with_reducible refine HF.out.mono ?_); rintro e w' ⟨v, rfl, hv, hg⟩)
      go_ret
      rw [HA1.out.val, HB1.out.val] at hv
      exact ⟨v, rfl, hv, HG.out.trans hg⟩
end Go.Proofs.YtelhmdhhabgihaaGreatDoor
