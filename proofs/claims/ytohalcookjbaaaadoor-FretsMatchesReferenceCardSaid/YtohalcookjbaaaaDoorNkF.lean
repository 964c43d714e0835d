/-
  frets.Find.
-/
import Derived.Test.YtohalcookjbaaaaDoorNkV
import Derived.Test.YtohalcookjbaaaaDoorNkC
import Derived.Test.YtohalcookjbaaaaDoorPOf
import Derived.Test.YtohalcookjbaaaaDoorOwnL
import Derived.Test.YtohalcookjbaaaaDoorSix
import Derived.Test.YtohalcookjbaaaaDoorHeld
import Derived.Deep.DeepCutAuto
import Derived.Deep.AppendLies
namespace Go.Proofs.YtohalcookjbaaaaDoor
open Go.RowKit

/-- A list of frets and an error. -/
def FrR (E : Int) (l : List (Nat × Nat)) (w : World) (e : Ending) (w' : World) : Prop := ∃ (A : Option Addr) (c : Nat), e = .returned (.tuple #[.slice A l.length c, .int .i64 E]) ∧ w'.ownsRow w.heap.size 37 2 (.slice A l.length c) l.length (frCells l) ∧ RowsAt w' 2 A l.length (frF l) ∧ l.length ≤ 4611686018427387904 ∧ l.length ≤ c ∧ Gr w w'
theorem infoFret : (Tryd.prog.info? 37).map (fun i => (i.zero, i.size, i.bytes)) = some (some (.agg #[.int .i64 0, .int .i64 0]), 2, 16) := by kernel_rfl
theorem cell_two_new (w : World) (x y : Value) (t : TypeId) : ∀ j u, [x, y][j]? = some u → (w.alloc (.cells #[x, y] t)).cell? ((⟨w.heap.size, 0, none⟩ : Addr).add j) = some u := by
  intro j u hj
  match j, hj with
  | 0, hj => simp at hj; subst hj; simp [Addr.add]
  | 1, hj => simp at hj; subst hj; simp [Addr.add]
theorem own_cap {W : World} {base : Nat} {e : TypeId} {sz n m c : Nat} {A : Option Addr} {xs : List Value} (h : W.ownsRow base e sz (.slice A m c) n xs) : n ≤ c := by
  rcases h.2 with ⟨h1, h2⟩ | ⟨g, cap, cur, h1, -, -, h2, -⟩
  · omega
  · cases h1; exact h2
theorem own_mono {W : World} {b b' : Nat} {e : TypeId} {sz n : Nat} {v : Value} {xs : List Value} (h : W.ownsRow b e sz v n xs) (hb : b' ≤ b) : W.ownsRow b' e sz v n xs := by
  refine ⟨h.1, ?_⟩
  rcases h.2 with h2 | ⟨g, cap, cur, h1, h2, h3⟩
  · exact .inl h2
  · exact .inr ⟨g, cap, cur, h1, Nat.le_trans hb h2, h3⟩
theorem frR_none {w w' : World} {e : Ending} {E : Int} (h : e = .returned (.tuple #[.slice none 0 0, .int .i64 E]) ∧ Gr w w') : FrR E [] w e w' := ⟨none, 0, h.1, World.ownsRow_nil _ _ _ _, RowsAt.nil _ _ _ _, by simp, Nat.le_refl _, h.2⟩
/-- The list so far, and a pitch in a box of its own. -/
structure FL (T : Nat) (x0 x1 x2 x3 x4 x5 : Value) (base : Nat) (W0 : World) (LV : Value) (l : List (Nat × Nat)) (W : World) : Prop where
  own : OwnL base 37 2 W0 LV l.length (frCells l) W
  hb : base ≤ T
  lt : T < W.heap.size
  six : SixV W T x0 x1 x2 x3 x4 x5
  ne : LV.ownBlock ≠ some T
theorem FL.gr {T base : Nat} {x0 x1 x2 x3 x4 x5 LV : Value} {W0 W W' : World} {l : List (Nat × Nat)} (h : FL T x0 x1 x2 x3 x4 x5 base W0 LV l W) (g : Gr W W') : FL T x0 x1 x2 x3 x4 x5 base W0 LV l W' :=
  ⟨h.own.gr g, h.hb, Nat.lt_of_lt_of_le h.lt g.le, h.six.keep g h.lt, h.ne⟩
theorem FL.snoc {T base g cap : Nat} {x0 x1 x2 x3 x4 x5 LV : Value} {W0 W W' : World} {l : List (Nat × Nat)} {p : Nat × Nat} {tmp : Obj} (h : FL T x0 x1 x2 x3 x4 x5 base W0 LV l W)
    (hown : W'.ownsRow base 37 2 (.slice (some ⟨g, 0, none⟩) (l.length + 1) cap) (l.length + 1) (frCells l ++ [.int .i64 (p.1 : Int), .int .i64 (p.2 : Int)])) (hgrow : (W.alloc tmp).grownBy W' LV.ownBlock) (hat : LV.ownBlock = some g ∨ g = (W.alloc tmp).heap.size) :
    FL T x0 x1 x2 x3 x4 x5 base W0 (.slice (some ⟨g, 0, none⟩) (l.length + 1) cap) (l ++ [p]) W' := by
  have h1 := h.gr ((Gr.refl W).alloc tmp)
  have hl := h.lt
  have hc : ∀ o x, (W.alloc tmp).cell? ⟨T, o, none⟩ = some x → W'.cell? ⟨T, o, none⟩ = some x := fun o x hx => hgrow.cell hx (fun e => h.ne e.symm)
  obtain ⟨c0, c1, c2, c3, c4, c5⟩ := h1.six
  refine ⟨?_, h.hb, Nat.lt_of_lt_of_le h1.lt hgrow.size, ⟨hc _ _ c0, hc _ _ c1, hc _ _ c2, hc _ _ c3, hc _ _ c4, hc _ _ c5⟩, ?_⟩
  · rw [List.length_append, frCells_snoc]
    exact h1.own.grown hown hgrow
  · simp only [Value.ownBlock, ne_eq, Option.some.injEq]
    rintro rfl
    rcases hat with e | e
    · exact h.ne e
    · simp at e; omega

theorem near_F (u0 u1 u2 u3 u4 u5 x0 x1 x2 x3 x4 x5 tl : Int) (hu : allIn ⟨u0, u1, u2, u3, u4, u5⟩ 576 6 = true) (hx : allIn ⟨x0, x1, x2, x3, x4, x5⟩ 576 6 = true) (k0 : 0 ≤ tl) (k1 : tl ≤ 50000) :
    ∃ X : Int, (∀ W, Logs W → Calls Tryd.prog 46 #[.agg #[.int .i64 u0, .int .i64 u1, .int .i64 u2, .int .i64 u3, .int .i64 u4, .int .i64 u5], .agg #[.int .i64 x0, .int .i64 x1, .int .i64 x2, .int .i64 x3, .int .i64 x4, .int .i64 x5], .int .i64 tl] W fun e w' => e = .returned (.tuple #[.int .i64 X, .int .i64 0]) ∧ Gr W w') ∧ (X == 1) = nearB ⟨u0, u1, u2, u3, u4, u5⟩ ⟨x0, x1, x2, x3, x4, x5⟩ tl :=
  ⟨_, fun W h => near_ok u0 u1 u2 u3 u4 u5 x0 x1 x2 x3 x4 x5 tl W h hu hx k0 (by omega), by unfold nearB V6.sub; rw [Bool.eq_iff_iff]; simp⟩

set_option maxRecDepth 100000 in
set_option maxHeartbeats 16000000 in
theorem ffind_bad (O Q : Option Addr) (no co nf cq : Nat) (sp tl : Int) (o q : Nat → Nat → Int) (v0 v1 v2 v3 v4 v5 : Int) (w : World) (hP : Primes w) (hO : RowsAt w 6 O no o) (hQ : RowsAt w 6 Q nf q) (hno : no ≤ 9223372036854775807) (hnf : nf ≤ 9223372036854775807) (hbad : (neckB no o nf q sp tl && allIn ⟨v0, v1, v2, v3, v4, v5⟩ 48 6) = false) :
    Calls Tryd.prog 22 #[.agg #[.slice O no co, .slice Q nf cq, .int .i64 sp, .int .i64 tl], .agg #[.int .i64 v0, .int .i64 v1, .int .i64 v2, .int .i64 v3, .int .i64 v4, .int .i64 v5]] w fun e w' => e = .returned (.tuple #[.slice none 0 0, .int .i64 1]) ∧ Gr w w' := by
  have hV := fun W (g : Gr w W) => neckValid_any O Q no co nf cq sp tl o q W (hP.keep g) (hO.keep g) (hQ.keep g) hno hnf
  rcases bool_tf (allIn ⟨v0, v1, v2, v3, v4, v5⟩ 48 6) with hv | hv
  · rw [hv, Bool.and_true] at hbad
    rw [hbad] at hV
    have HV := Lib.hid hV
    have HOF := Lib.hid (fun W => pof_ok v0 v1 v2 v3 v4 v5 W hv)
    clear hV hbad hv hP hO hQ
    go_enter Tryd.func22, Tryd.ntmps22
    go_wp2_with fail
    (go_at_call 28; with_reducible refine (HOF.out _).mono ?_; rintro e w' ⟨rfl, hb⟩; have hz := hb.le; obtain ⟨hc, hf⟩ := hb.cells; have hn := hb.cellsN; (try simp only [World.size_alloc] at hc hf hz hn); (try simp only [World.size_setCell] at hc hf hz hn); (try simp only [World.size_drew] at hc hf hz hn))
    go_wp2_with fail
    (go_at_call 13; with_reducible refine (HV.out _ (by repeat (first | with_reducible exact Gr.refl _ | with_reducible refine Gr.alloc ?_ _ | with_reducible refine Gr.drew ?_ | with_reducible refine Gr.trans ?_ (by assumption) | with_reducible refine Gr.setCell ?_ (by (try simp); (try omega)) _))).mono ?_; rintro e w' ⟨rfl, hb⟩; have hz := hb.le; obtain ⟨hc, hf⟩ := hb.cells; have hn := hb.cellsN; (try simp only [World.size_alloc] at hc hf hz hn); (try simp only [World.size_setCell] at hc hf hz hn); (try simp only [World.size_drew] at hc hf hz hn))
    go_wp2_with fail
    go_ret2
    exact ⟨rfl, (by repeat (first | with_reducible exact Gr.refl _ | with_reducible refine Gr.alloc ?_ _ | with_reducible refine Gr.drew ?_ | with_reducible refine Gr.trans ?_ (by assumption) | with_reducible refine Gr.setCell ?_ (by (try simp); (try omega)) _))⟩
  · have HOF := Lib.hid (fun W => pof_bad v0 v1 v2 v3 v4 v5 W hv)
    clear hV hbad hv hP hO hQ
    go_enter Tryd.func22, Tryd.ntmps22
    go_wp2_with fail
    (go_at_call 28; with_reducible refine (HOF.out _).mono ?_; rintro e w' ⟨rfl, hb⟩; have hz := hb.le; obtain ⟨hc, hf⟩ := hb.cells; have hn := hb.cellsN; (try simp only [World.size_alloc] at hc hf hz hn); (try simp only [World.size_setCell] at hc hf hz hn); (try simp only [World.size_drew] at hc hf hz hn))
    go_wp2_with fail
    go_ret2
    exact ⟨rfl, (by repeat (first | with_reducible exact Gr.refl _ | with_reducible refine Gr.alloc ?_ _ | with_reducible refine Gr.drew ?_ | with_reducible refine Gr.trans ?_ (by assumption) | with_reducible refine Gr.setCell ?_ (by (try simp); (try omega)) _))⟩

set_option maxRecDepth 100000 in
set_option maxHeartbeats 16000000 in
theorem ffind_ok (O Q : Option Addr) (no co nf cq : Nat) (sp tl : Int) (o q : Nat → Nat → Int) (v0 v1 v2 v3 v4 v5 : Int) (w : World) (hP : Primes w) (hL : Logs w) (hO : RowsAt w 6 O no o) (hQ : RowsAt w 6 Q nf q) (hno : no ≤ 9223372036854775807) (hnf : nf ≤ 9223372036854775807) (hok : neckB no o nf q sp tl = true) (hv : allIn ⟨v0, v1, v2, v3, v4, v5⟩ 48 6 = true) :
    Calls Tryd.prog 22 #[.agg #[.slice O no co, .slice Q nf cq, .int .i64 sp, .int .i64 tl], .agg #[.int .i64 v0, .int .i64 v1, .int .i64 v2, .int .i64 v3, .int .i64 v4, .int .i64 v5]] w (FrR 0 (findF no o nf q tl ⟨v0, v1, v2, v3, v4, v5⟩) w) := by
  obtain ⟨⟨l1, l2, l3, l4, l5, l6, l7⟩, hri, hop⟩ := neckB_parts hok
  have hva := atV_in hv
  simp only [atV] at hva
  have hNO : ∀ s, s < no → ∃ X : Int, (∀ W, Logs W → Calls Tryd.prog 46 #[.agg #[.int .i64 (v0 * 12), .int .i64 (v1 * 12), .int .i64 (v2 * 12), .int .i64 (v3 * 12), .int .i64 (v4 * 12), .int .i64 (v5 * 12)], .agg #[.int .i64 (o s 0), .int .i64 (o s 1), .int .i64 (o s 2), .int .i64 (o s 3), .int .i64 (o s 4), .int .i64 (o s 5)], .int .i64 tl] W fun e w' => e = .returned (.tuple #[.int .i64 X, .int .i64 0]) ∧ Gr W w') ∧ (X == 1) = playsF o q tl ⟨v0, v1, v2, v3, v4, v5⟩ s 0 := fun s hs => by
    have k := (opensB_at hop hs).1
    simp only [rowV] at k
    exact near_F _ _ _ _ _ _ (o s 0) (o s 1) (o s 2) (o s 3) (o s 4) (o s 5) tl hva k l6 l7
  have hNK : ∀ s k, s < no → k < nf → ∃ X : Int, (∀ W, Logs W → Calls Tryd.prog 46 #[.agg #[.int .i64 (v0 * 12), .int .i64 (v1 * 12), .int .i64 (v2 * 12), .int .i64 (v3 * 12), .int .i64 (v4 * 12), .int .i64 (v5 * 12)], .agg #[.int .i64 (o s 0 + q k 0), .int .i64 (o s 1 + q k 1), .int .i64 (o s 2 + q k 2), .int .i64 (o s 3 + q k 3), .int .i64 (o s 4 + q k 4), .int .i64 (o s 5 + q k 5)], .int .i64 tl] W fun e w' => e = .returned (.tuple #[.int .i64 X, .int .i64 0]) ∧ Gr W w') ∧ (X == 1) = playsF o q tl ⟨v0, v1, v2, v3, v4, v5⟩ s (k + 1) := fun s k hs hk => by
    have z := fitsB_at (opensB_at hop hs).2 hk
    simp only [rowV, V6.add] at z
    exact near_F _ _ _ _ _ _ (o s 0 + q k 0) (o s 1 + q k 1) (o s 2 + q k 2) (o s 3 + q k 3) (o s 4 + q k 4) (o s 5 + q k 5) tl hva z l6 l7
  have hMU : ∀ s k, s < no → k < nf → ∀ W, Calls Tryd.prog 29 #[.agg #[.int .i64 (o s 0), .int .i64 (o s 1), .int .i64 (o s 2), .int .i64 (o s 3), .int .i64 (o s 4), .int .i64 (o s 5)], .agg #[.int .i64 (q k 0), .int .i64 (q k 1), .int .i64 (q k 2), .int .i64 (q k 3), .int .i64 (q k 4), .int .i64 (q k 5)]] W fun e w' => e = .returned (.tuple #[.agg #[.int .i64 (o s 0 + q k 0), .int .i64 (o s 1 + q k 1), .int .i64 (o s 2 + q k 2), .int .i64 (o s 3 + q k 3), .int .i64 (o s 4 + q k 4), .int .i64 (o s 5 + q k 5)], .int .i64 0]) ∧ Gr W w' := fun s k hs hk W => by
    have z := fitsB_at (opensB_at hop hs).2 hk
    have z1 := (opensB_at hop hs).1
    have z2 := (risesB_at hri hk).1
    simp only [rowV, V6.add] at z z1 z2
    exact mul_ok (o s 0) (o s 1) (o s 2) (o s 3) (o s 4) (o s 5) (q k 0) (q k 1) (q k 2) (q k 3) (q k 4) (q k 5) W z1 z2 z
  have hV := fun W (g : Gr w W) => neckValid_any O Q no co nf cq sp tl o q W (hP.keep g) (hO.keep g) (hQ.keep g) hno hnf
  rw [hok] at hV
  have HV := Lib.hid hV
  have HOF := Lib.hid (fun W => pof_ok v0 v1 v2 v3 v4 v5 W hv)
  have HNO := Lib.hid hNO; have HNK := Lib.hid hNK; have HMU := Lib.hid hMU
  have HO := Lib.hid hO; have HQ := Lib.hid hQ; have HLG := Lib.hid hL
  obtain ⟨i0, hinfo, hy0, hy1, hy2⟩ := info_parts infoFret
  have HINF := Lib.hid (And.intro hinfo (And.intro hy0 (And.intro hy1 hy2)))
  clear hV hv hP hO hQ hL hok hri hop hva hNO hNK hMU hinfo hy0 hy1 hy2
  unfold findF
  generalize playsF o q tl ⟨v0, v1, v2, v3, v4, v5⟩ = P at *
  have HLEN : Hid (∀ s k, s < no → k ≤ nf + 1 → (onAll P (nf + 1) s ++ onS P s k).length ≤ 400) := Lib.hid (fun s k hs hk => by
    have z1 := onAll_len P (nf + 1) s
    have z2 := onS_len P s k
    have z3 : s * (nf + 1) ≤ 7 * 37 := Nat.mul_le_mul (by omega) (by omega)
    rw [List.length_append]; omega)
  go_enter Tryd.func22, Tryd.ntmps22
  go_wp2_with fail
  go_at_call 28
  with_reducible refine (HOF.out _).mono ?_
  rintro e w1 ⟨rfl, hb1⟩
  have hz1 := hb1.le; obtain ⟨hc1, hf1⟩ := hb1.cells
  (try simp only [World.size_alloc] at hc1 hf1 hz1)
  go_wp2_with fail
  (go_at_call 13; with_reducible refine (HV.out _ (by repeat (first | with_reducible exact Gr.refl _ | with_reducible refine Gr.alloc ?_ _ | with_reducible refine Gr.drew ?_ | with_reducible refine Gr.trans ?_ (by assumption) | with_reducible refine Gr.setCell ?_ (by (try simp); (try omega)) _))).mono ?_; rintro e w' ⟨rfl, hb⟩; have hz := hb.le; obtain ⟨hc, hf⟩ := hb.cells; have hn := hb.cellsN; (try simp only [World.size_alloc] at hc hf hz hn); (try simp only [World.size_setCell] at hc hf hz hn); (try simp only [World.size_drew] at hc hf hz hn))
  have HB : Hid (NeckAt w' w.heap.size O Q no co nf cq sp tl) := Lib.hid ⟨by omega, by simp [go_sem, *], by simp [go_sem, *], by simp [go_sem, *], by simp [go_sem, *]⟩
  have HS6 : Hid (SixV w' w1.heap.size (.int .i64 (v0 * 12)) (.int .i64 (v1 * 12)) (.int .i64 (v2 * 12)) (.int .i64 (v3 * 12)) (.int .i64 (v4 * 12)) (.int .i64 (v5 * 12))) := Lib.hid ⟨by simp [go_sem, *], by simp [go_sem, *], by simp [go_sem, *], by simp [go_sem, *], by simp [go_sem, *], by simp [go_sem, *]⟩
  have HZ6 : Hid (w1.heap.size < w'.heap.size) := Lib.hid (by omega)
  have HG := Lib.hid (show Gr w w' from (by repeat (first | with_reducible exact Gr.refl _ | with_reducible refine Gr.alloc ?_ _ | with_reducible refine Gr.drew ?_ | with_reducible refine Gr.trans ?_ (by assumption) | with_reducible refine Gr.setCell ?_ (by (try simp); (try omega)) _)))
  clear hb hz hc hf hn hb1 hz1 hc1 hf1 HV HOF
  obtain ⟨W0, rfl⟩ : ∃ W0 : World, W0 = w' := ⟨_, rfl⟩
  generalize w1.heap.size = B6 at *
  have HL0 : Hid (OwnL W0.heap.size 37 2 W0 (.slice none 0 0) (onAll P (nf + 1) 0).length (frCells (onAll P (nf + 1) 0)) W0) := Lib.hid (OwnL.start _ _ _ _ (Nat.le_refl _))
  obtain ⟨hl0, b0, b1, b2, b3⟩ := HB.out
  go_wp2_with fail
  clear hl0 b0 b1 b2 b3
  go_loopw [8, 34] (fun lv iv wr => ∃ (LV : Value) (s : Nat), LV = lv ∧ s ≤ no ∧ iv = .int .i64 (s : Int) ∧ OwnL W0.heap.size 37 2 W0 LV (onAll P (nf + 1) s).length (frCells (onAll P (nf + 1) s)) wr) (fun _ iv _ => no - (intOf iv).toNat)
  case atStart => exact ⟨_, 0, rfl, Nat.zero_le _, rfl, HL0.out⟩
  case round =>
    obtain ⟨lv, s, rfl, hsn, rfl, hL⟩ := hrel
    have HL := Lib.hid hL
    have hgr : Gr W0 wr := hL.toGr (Gr.refl _) (Nat.le_refl _)
    have HGR := Lib.hid hgr
    have hsz := hL.size
    obtain ⟨hl0, b0, b1, b2, b3⟩ := HB.out.keep hgr
    clear hL HL0
    obtain ⟨wo, rfl⟩ : ∃ wo : World, wo = wr := ⟨_, rfl⟩
    by_cases hlt : s < no
    · have hlt' : decide ((s : Int) < (no : Int)) = true := decide_eq_true (by omega)
      obtain ⟨b, off, rfl, hbl, c0, c1, c2, c3, c4, c5⟩ := (HO.out.keep (HG.out.trans hgr)).six hlt
      obtain ⟨e0, e1, e2, e3, e4, e5⟩ := HS6.out.keep hgr HZ6.out
      have hz6 := HZ6.out
      obtain ⟨X, hX, hx1⟩ := HNO.out s hlt
      have HX := Lib.hid hX
      have HX1 := Lib.hid hx1
      have hne : lv.ownBlock ≠ some wo.heap.size := fun e => by have := (HL.out.own.lt _ e).2; omega
      clear hX hx1 hgr
      go_wp2_with fail
      (go_at_call 46; with_reducible refine (HX.out _ (HLG.out.keep (HG.out.trans (HGR.out.trans (by repeat (first | with_reducible exact Gr.refl _ | with_reducible refine Gr.alloc ?_ _ | with_reducible refine Gr.drew ?_ | with_reducible refine Gr.trans ?_ (by assumption) | with_reducible refine Gr.setCell ?_ (by (try simp); (try omega)) _)))))).mono ?_; rintro e w' ⟨rfl, hb⟩; have hz := hb.le; obtain ⟨hc, hf⟩ := hb.cells; have hn := hb.cellsN; (try simp only [World.size_alloc] at hc hf hz hn); (try simp only [World.size_setCell] at hc hf hz hn); (try simp only [World.size_drew] at hc hf hz hn))
      have hFL : FL wo.heap.size (.int .i64 (o s 0)) (.int .i64 (o s 1)) (.int .i64 (o s 2)) (.int .i64 (o s 3)) (.int .i64 (o s 4)) (.int .i64 (o s 5)) W0.heap.size W0 lv (onAll P (nf + 1) s) w' := ⟨HL.out.gr (by repeat (first | with_reducible exact Gr.refl _ | with_reducible refine Gr.alloc ?_ _ | with_reducible refine Gr.drew ?_ | with_reducible refine Gr.trans ?_ (by assumption) | with_reducible refine Gr.setCell ?_ (by (try simp); (try omega)) _)), by omega, by omega, ⟨by simp [go_sem, *], by simp [go_sem, *], by simp [go_sem, *], by simp [go_sem, *], by simp [go_sem, *], by simp [go_sem, *]⟩, hne⟩
      have HFL := Lib.hid hFL
      have hszw := hFL.own.size
      clear hb hz hc hf hn hFL hl0 b0 b1 b2 b3 c0 c1 c2 c3 c4 c5 e0 e1 e2 e3 e4 e5 hne HL HGR HX
      generalize wo.heap.size = T at *
      obtain ⟨w2, rfl⟩ : ∃ w2 : World, w2 = w' := ⟨_, rfl⟩
      go_upto_if 48 with fail
      go_cut [8] (fun lx wx => ∃ LV : Value, LV = lx ∧ FL T (.int .i64 (o s 0)) (.int .i64 (o s 1)) (.int .i64 (o s 2)) (.int .i64 (o s 3)) (.int .i64 (o s 4)) (.int .i64 (o s 5)) W0.heap.size W0 LV (onAll P (nf + 1) s ++ onS P s 1) wx)
      case first =>
        have hx1 := HX1.out
        rcases bool_tf (P s 0) with hp | hp
        · have HE1 : Hid (onS P s 1 = [(s, 0)]) := Lib.hid (by simp [onS, hp])
          rw [hp] at hx1
          have hlen := HLEN.out s 0 hlt (by omega)
          simp only [onS, List.append_nil] at hlen
          clear hp HX1
          go_wp2_with (at_builtin; refine wpList_append_lies _ rfl (.tmp 49) (.tmp 52) 25 rfl W0.heap.size 37 i0 (.agg #[.int .i64 0, .int .i64 0]) 2 16 Tryd.underlying25 HINF.out.1 HINF.out.2.1 HINF.out.2.2.1 HINF.out.2.2.2 rfl (by decide) _ _ _ rfl (HFL.out.own.own.alloc _) ⟨w2.heap.size, 0, none⟩ 1 1 [.int .i64 (s : Int), .int .i64 0] rfl rfl (cell_two_new _ _ _ _) (by intro u hu; simp at hu; rcases hu with rfl | rfl <;> rfl) (by decide) (by unfold maxLen; omega) (by omega) (by simp; omega) _ rfl ?_; intro g' cap' w3 hown hgrow hat hlt3)
          have HN := Lib.hid (HFL.out.snoc (p := (s, 0)) hown hgrow hat)
          clear hown hgrow hat hlt3 hx1
          go_wp2_with fail
          go_meet
          exact ⟨_, rfl, by rw [HE1.out]; exact HN.out⟩
        · have HE1 : Hid (onS P s 1 = []) := Lib.hid (by simp [onS, hp])
          rw [hp] at hx1
          clear hp HX1
          go_wp2_with fail
          go_meet
          exact ⟨_, rfl, by rw [HE1.out, List.append_nil]; exact HFL.out⟩
      case rest =>
        obtain ⟨LV, rfl, hFL⟩ := hcut
        have HFN := Lib.hid hFL
        have hgr : Gr W0 wc := hFL.own.toGr (Gr.refl _) (Nat.le_refl _)
        obtain ⟨hl0, b0, b1, b2, b3⟩ := HB.out.keep hgr
        clear hFL HFL hgr HX1 hsz hszw
        obtain ⟨w3, rfl⟩ : ∃ w3 : World, w3 = wc := ⟨_, rfl⟩
        go_wp2_with fail
        clear hl0 b0 b1 b2 b3
        go_loopw [8, 57] (fun lx kv wr => ∃ (LV : Value) (k : Nat), LV = lx ∧ k ≤ nf ∧ kv = .int .i64 (k : Int) ∧ FL T (.int .i64 (o s 0)) (.int .i64 (o s 1)) (.int .i64 (o s 2)) (.int .i64 (o s 3)) (.int .i64 (o s 4)) (.int .i64 (o s 5)) W0.heap.size W0 LV (onAll P (nf + 1) s ++ onS P s (k + 1)) wr) (fun _ kv _ => nf - (intOf kv).toNat)
        case atStart => exact ⟨_, 0, rfl, Nat.zero_le _, rfl, HFN.out⟩
        case round =>
          obtain ⟨lw, k, rfl, hkn, rfl, hFL⟩ := hrel
          have HF := Lib.hid hFL
          have hgr : Gr W0 wr := hFL.own.toGr (Gr.refl _) (Nat.le_refl _)
          have HGR := Lib.hid hgr
          have hsz := hFL.own.size
          obtain ⟨hl0, b0, b1, b2, b3⟩ := HB.out.keep hgr
          obtain ⟨e0, e1, e2, e3, e4, e5⟩ := HS6.out.keep hgr HZ6.out
          obtain ⟨d0, d1, d2, d3, d4, d5⟩ := hFL.six
          have hTl := hFL.lt
          have hz6 := HZ6.out
          clear hFL HFN
          obtain ⟨wk, rfl⟩ : ∃ wk : World, wk = wr := ⟨_, rfl⟩
          by_cases hkl : k < nf
          · have hkl' : decide ((k : Int) < (nf : Int)) = true := decide_eq_true (by omega)
            obtain ⟨b', off', rfl, hbl', c0, c1, c2, c3, c4, c5⟩ := (HQ.out.keep (HG.out.trans hgr)).six hkl
            obtain ⟨Y, hY, hy1⟩ := HNK.out s k hlt hkl
            have HY := Lib.hid hY
            have HM := Lib.hid (HMU.out s k hlt hkl)
            have hwk : IntKind.i64.wrap ((k : Int) + 1) = (k : Int) + 1 := IntWalk.i64_in _ ⟨by omega, by omega⟩
            have hlen := HLEN.out s (k + 1) hlt (by omega)
            clear hY hgr
            rcases bool_tf (P s (k + 1)) with hp | hp
            · have HE1 : Hid (onAll P (nf + 1) s ++ onS P s (k + 1 + 1) = onAll P (nf + 1) s ++ onS P s (k + 1) ++ [(s, k + 1)]) := Lib.hid (by rw [List.append_assoc]; congr 1; simp [onS, hp])
              rw [hp] at hy1
              clear hp
              generalize onAll P (nf + 1) s ++ onS P s (k + 1) = LL at *
              go_wp2_with fail
              (go_at_call 29; with_reducible refine (HM.out _).mono ?_; rintro e w' ⟨rfl, hb⟩; have hz := hb.le; obtain ⟨hc, hf⟩ := hb.cells; have hn := hb.cellsN; (try simp only [World.size_alloc] at hc hf hz hn); (try simp only [World.size_setCell] at hc hf hz hn); (try simp only [World.size_drew] at hc hf hz hn))
              go_wp2_with fail
              (go_at_call 46; with_reducible refine (HY.out _ (HLG.out.keep (HG.out.trans (HGR.out.trans (by repeat (first | with_reducible exact Gr.refl _ | with_reducible refine Gr.alloc ?_ _ | with_reducible refine Gr.drew ?_ | with_reducible refine Gr.trans ?_ (by assumption) | with_reducible refine Gr.setCell ?_ (by (try simp); (try omega)) _)))))).mono ?_; rintro e w' ⟨rfl, hb⟩; have hz := hb.le; obtain ⟨hc, hf⟩ := hb.cells; have hn := hb.cellsN; (try simp only [World.size_alloc] at hc hf hz hn); (try simp only [World.size_setCell] at hc hf hz hn); (try simp only [World.size_drew] at hc hf hz hn))
              have HF2 := Lib.hid (HF.out.gr (show Gr wk w' from (by repeat (first | with_reducible exact Gr.refl _ | with_reducible refine Gr.alloc ?_ _ | with_reducible refine Gr.drew ?_ | with_reducible refine Gr.trans ?_ (by assumption) | with_reducible refine Gr.setCell ?_ (by (try simp); (try omega)) _))))
              have hsz2 := HF2.out.own.size
              clear hb hz hc hf hn hl0 b0 b1 b2 b3 c0 c1 c2 c3 c4 c5 e0 e1 e2 e3 e4 e5 d0 d1 d2 d3 d4 d5 HF HGR HM HY
              obtain ⟨w4, rfl⟩ : ∃ w4 : World, w4 = w' := ⟨_, rfl⟩
              go_wp2_with (at_builtin; refine wpList_append_lies _ rfl (.tmp 78) (.tmp 83) 25 rfl W0.heap.size 37 i0 (.agg #[.int .i64 0, .int .i64 0]) 2 16 Tryd.underlying25 HINF.out.1 HINF.out.2.1 HINF.out.2.2.1 HINF.out.2.2.2 rfl (by decide) _ _ _ rfl (HF2.out.own.own.alloc _) ⟨w4.heap.size, 0, none⟩ 1 1 [.int .i64 (s : Int), .int .i64 ((k : Int) + 1)] rfl rfl (cell_two_new _ _ _ _) (by intro u hu; simp at hu; rcases hu with rfl | rfl <;> rfl) (by decide) (by unfold maxLen; omega) (by omega) (by simp; omega) _ rfl ?_; intro g' cap' w5 hown hgrow hat hlt3)
              have HN := Lib.hid (HF2.out.snoc (p := (s, k + 1)) hown hgrow hat)
              clear hown hgrow hat hlt3 hy1
              go_wp2_with fail
              go_roundw
              case rel => exact ⟨_, k + 1, rfl, by omega, by go_num, by rw [HE1.out]; exact HN.out⟩
              case measure => simp [intOf]; omega
            · have HE1 : Hid (onAll P (nf + 1) s ++ onS P s (k + 1 + 1) = onAll P (nf + 1) s ++ onS P s (k + 1)) := Lib.hid (by congr 1; simp [onS, hp])
              rw [hp] at hy1
              clear hp
              generalize onAll P (nf + 1) s ++ onS P s (k + 1) = LL at *
              go_wp2_with fail
              (go_at_call 29; with_reducible refine (HM.out _).mono ?_; rintro e w' ⟨rfl, hb⟩; have hz := hb.le; obtain ⟨hc, hf⟩ := hb.cells; have hn := hb.cellsN; (try simp only [World.size_alloc] at hc hf hz hn); (try simp only [World.size_setCell] at hc hf hz hn); (try simp only [World.size_drew] at hc hf hz hn))
              go_wp2_with fail
              (go_at_call 46; with_reducible refine (HY.out _ (HLG.out.keep (HG.out.trans (HGR.out.trans (by repeat (first | with_reducible exact Gr.refl _ | with_reducible refine Gr.alloc ?_ _ | with_reducible refine Gr.drew ?_ | with_reducible refine Gr.trans ?_ (by assumption) | with_reducible refine Gr.setCell ?_ (by (try simp); (try omega)) _)))))).mono ?_; rintro e w' ⟨rfl, hb⟩; have hz := hb.le; obtain ⟨hc, hf⟩ := hb.cells; have hn := hb.cellsN; (try simp only [World.size_alloc] at hc hf hz hn); (try simp only [World.size_setCell] at hc hf hz hn); (try simp only [World.size_drew] at hc hf hz hn))
              have HF2 := Lib.hid (HF.out.gr (show Gr wk w' from (by repeat (first | with_reducible exact Gr.refl _ | with_reducible refine Gr.alloc ?_ _ | with_reducible refine Gr.drew ?_ | with_reducible refine Gr.trans ?_ (by assumption) | with_reducible refine Gr.setCell ?_ (by (try simp); (try omega)) _))))
              clear hb hz hc hf hn hl0 b0 b1 b2 b3 c0 c1 c2 c3 c4 c5 e0 e1 e2 e3 e4 e5 d0 d1 d2 d3 d4 d5 HF HGR HM HY
              obtain ⟨w4, rfl⟩ : ∃ w4 : World, w4 = w' := ⟨_, rfl⟩
              go_wp2_with fail
              go_roundw
              case rel => exact ⟨_, k + 1, rfl, by omega, by go_num, by rw [HE1.out]; exact HF2.out⟩
              case measure => simp [intOf]; omega
          · obtain rfl : nf = k := by omega
            go_wp2_with fail
            go_roundw
            case rel => exact ⟨_, s + 1, rfl, by omega, by go_num, HF.out.own⟩
            case measure => simp [intOf]; omega
    · obtain rfl : no = s := by omega
      obtain ⟨A', c', hlv, hrows, hle⟩ := rows_of_own HL.out.own (frF (onAll P (nf + 1) no)) (fun i j hi hj => frCells_at _ i j hi hj)
      subst hlv
      have hcap := own_cap HL.out.own
      have hlen : (onAll P (nf + 1) no).length ≤ 4611686018427387904 := by
        have z1 := onAll_len P (nf + 1) no
        have z3 : no * (nf + 1) ≤ 8 * 37 := Nat.mul_le_mul (by omega) (by omega)
        omega
      have HOWNF := Lib.hid (own_mono HL.out.own HG.out.le)
      have HRW := Lib.hid (And.intro hrows (And.intro hlen hcap))
      clear hlen hcap
      clear hrows hle
      go_wp2_with fail
      go_ret2
      exact ⟨A', c', rfl, HOWNF.out, HRW.out.1, HRW.out.2.1, HRW.out.2.2, HG.out.trans HGR.out⟩
/-- frets.Find at every input. -/
def findOk (no : Nat) (o : Nat → Nat → Int) (nf : Nat) (q : Nat → Nat → Int) (sp tl : Int) (v : V6) : Bool := neckB no o nf q sp tl && allIn v 48 6
def findE (no : Nat) (o : Nat → Nat → Int) (nf : Nat) (q : Nat → Nat → Int) (sp tl : Int) (v : V6) : Int := if findOk no o nf q sp tl v then 0 else 1
def findL (no : Nat) (o : Nat → Nat → Int) (nf : Nat) (q : Nat → Nat → Int) (sp tl : Int) (v : V6) : List (Nat × Nat) := if findOk no o nf q sp tl v then findF no o nf q tl v else []
theorem ffind_any (O Q : Option Addr) (no co nf cq : Nat) (sp tl : Int) (o q : Nat → Nat → Int) (v0 v1 v2 v3 v4 v5 : Int) (w : World) (hP : Primes w) (hL : Logs w) (hO : RowsAt w 6 O no o) (hQ : RowsAt w 6 Q nf q) (hno : no ≤ 9223372036854775807) (hnf : nf ≤ 9223372036854775807) :
    Calls Tryd.prog 22 #[.agg #[.slice O no co, .slice Q nf cq, .int .i64 sp, .int .i64 tl], .agg #[.int .i64 v0, .int .i64 v1, .int .i64 v2, .int .i64 v3, .int .i64 v4, .int .i64 v5]] w (FrR (findE no o nf q sp tl ⟨v0, v1, v2, v3, v4, v5⟩) (findL no o nf q sp tl ⟨v0, v1, v2, v3, v4, v5⟩) w) := by
  unfold findE findL
  rcases bool_tf (findOk no o nf q sp tl ⟨v0, v1, v2, v3, v4, v5⟩) with h | h
  · rw [h]
    simp only [findOk, Bool.and_eq_true] at h
    exact ffind_ok O Q no co nf cq sp tl o q v0 v1 v2 v3 v4 v5 w hP hL hO hQ hno hnf h.1 h.2
  · rw [h]
    exact (ffind_bad O Q no co nf cq sp tl o q v0 v1 v2 v3 v4 v5 w hP hO hQ hno hnf h).mono fun e w' h => frR_none h
end Go.Proofs.YtohalcookjbaaaaDoor
