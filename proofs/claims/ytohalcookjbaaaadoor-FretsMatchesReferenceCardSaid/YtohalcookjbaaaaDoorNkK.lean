/-
  frets.Chord.
-/
import Derived.Test.YtohalcookjbaaaaDoorNkN
import Derived.Laws.EntriesVeiled
namespace Go.Proofs.YtohalcookjbaaaaDoor
open Go.RowKit

theorem own_ne {W : World} {b1 b2 s1 s2 n1 n2 : Nat} {e1 e2 : TypeId} {v1 v2 : Value} {x1 x2 : List Value} (h1 : W.ownsRow b1 e1 s1 v1 n1 x1) (h2 : W.ownsRow b2 e2 s2 v2 n2 x2) (he : e1 ≠ e2) : v1.ownBlock = none ∨ v1.ownBlock ≠ v2.ownBlock := by
  rcases h1.2 with ⟨rfl, _⟩ | ⟨g, cap, cur, rfl, _, hg, _⟩
  · exact .inl rfl
  · rcases h2.2 with ⟨rfl, _⟩ | ⟨g', cap', cur', rfl, _, hg', _⟩
    · exact .inr (by simp [Value.ownBlock])
    · refine .inr fun e => ?_
      simp only [Value.ownBlock, Option.some.injEq] at e
      rw [e, hg'] at hg
      cases hg
      exact he rfl
/-- The options so far: in their box (block Wb.heap.size), each a list of the call's own. -/
structure OS (Wb : World) (W : World) (v : Value) (os : List (List (Nat × Nat))) : Prop where
  gr : Gr Wb W
  sz : Wb.heap.size + 1 ≤ W.heap.size
  lc : W.cell? ⟨Wb.heap.size, 0, none⟩ = some v
  lf : W.frozen? ⟨Wb.heap.size, 0, none⟩ = false
  own : ∃ xs : List Value, W.ownsRow (Wb.heap.size + 1) 25 1 v os.length xs ∧ ∀ (k : Nat) (o : List (Nat × Nat)), os[k]? = some o → ∃ (Ak : Option Addr) (ck : Nat), xs[k]? = some (.slice Ak o.length ck) ∧ W.ownsRow (Wb.heap.size + 1) 37 2 (.slice Ak o.length ck) o.length (frCells o) ∧ o.length ≤ 4611686018427387904
theorem OS.keep {Wb W W' : World} {v : Value} {os : List (List (Nat × Nat))} (h : OS Wb W v os) (g : Gr W W') : OS Wb W' v os := by
  have := h.sz
  obtain ⟨xs, h1, h2⟩ := h.own
  refine ⟨h.gr.trans g, Nat.le_trans h.sz g.le, (Below.cell (p := ⟨Wb.heap.size, 0, none⟩) g (show Wb.heap.size < W.heap.size by omega)).trans h.lc, (Below.frozen (p := ⟨Wb.heap.size, 0, none⟩) g (show Wb.heap.size < W.heap.size by omega)).trans h.lf, xs, own_keep h1 g, fun k o hk => ?_⟩
  obtain ⟨Ak, ck, h3, h4, h5⟩ := h2 k o hk
  exact ⟨Ak, ck, h3, own_keep h4 g, h5⟩
/-- Behind an append and the store into the box. -/
theorem OS.push {Wb W X w3 : World} {g cap ca : Nat} {A : Option Addr} {os : List (List (Nat × Nat))} {v : Value} {o : List (Nat × Nat)} {xs : List Value} (h : OS Wb W v os) (g1 : Gr W X)
    (hxs : W.ownsRow (Wb.heap.size + 1) 25 1 v os.length xs)
    (hl : W.ownsRow (Wb.heap.size + 1) 37 2 (.slice A o.length ca) o.length (frCells o)) (hol : o.length ≤ 4611686018427387904)
    (hown : w3.ownsRow (Wb.heap.size + 1) 25 1 (.slice (some ⟨g, 0, none⟩) (os.length + 1) cap) (os.length + 1) (xs ++ [.slice A o.length ca])) (hgrow : X.grownBy w3 v.ownBlock) :
    OS Wb (w3.setCell ⟨Wb.heap.size, 0, none⟩ (.slice (some ⟨g, 0, none⟩) (os.length + 1) cap)) (.slice (some ⟨g, 0, none⟩) (os.length + 1) cap) (os ++ [o]) := by
  have hX := h.keep g1
  obtain ⟨xs', k1, k2⟩ := h.own
  have hxx : xs' = xs := by
    have a := hxs.2
    rcases k1.2 with ⟨e1, e2⟩ | ⟨g1', c1', cur1, e1, -, e3, -, -, -, e4⟩
    · have l1 := k1.1; have l2 := hxs.1
      rw [e2] at l1 l2
      rw [List.length_eq_zero_iff.1 (by omega : xs'.length = 0), List.length_eq_zero_iff.1 (by omega : xs.length = 0)]
    · rcases a with ⟨f1, _⟩ | ⟨g2', c2', cur2, f1, -, f3, -, -, -, f4⟩
      · rw [e1] at f1; cases f1
      · rw [e1] at f1; cases f1
        rw [e3] at f3; cases f3
        rw [← e4, ← f4]
  subst hxx
  have hlow : ∀ k, v.ownBlock = some k → Wb.heap.size + 1 ≤ k := fun k e => (hxs.lt k e).1
  have b1 : Below (Wb.heap.size + 1) X w3 := (Below.refl _ _).grown hgrow hX.sz hlow
  have hz3 : Wb.heap.size + 1 ≤ w3.heap.size := Nat.le_trans hX.sz hgrow.size
  have hcl : w3.cell? ⟨Wb.heap.size, 0, none⟩ = some v := (b1.cell (p := ⟨Wb.heap.size, 0, none⟩) (show Wb.heap.size < Wb.heap.size + 1 by omega)).trans hX.lc
  have hgl : Wb.heap.size + 1 ≤ g := (hown.lt g rfl).1
  have hset : ∀ (e : TypeId) (s n : Nat) (u : Value) (ys : List Value), w3.ownsRow (Wb.heap.size + 1) e s u n ys → (w3.setCell ⟨Wb.heap.size, 0, none⟩ (.slice (some ⟨g, 0, none⟩) (os.length + 1) cap)).ownsRow (Wb.heap.size + 1) e s u n ys := fun e s n u ys hu => by
    refine hu.kept (Go.grownBy_setCell' w3 Wb.heap.size _) ?_
    cases eu : u.ownBlock with
    | none => exact .inl rfl
    | some k => exact .inr (fun e' => by have := (hu.lt k eu).1; cases e'; omega)
  have hlist : ∀ (u : Value) (n : Nat) (ys : List Value), W.ownsRow (Wb.heap.size + 1) 37 2 u n ys → w3.ownsRow (Wb.heap.size + 1) 37 2 u n ys := fun u n ys hu =>
    (own_keep hu g1).kept hgrow (own_ne (own_keep hu g1) (own_keep hxs g1) (by decide))
  refine ⟨?_, by rw [World.size_setCell]; exact hz3, by simp [go_sem, hcl], ?_, xs' ++ [.slice A o.length ca], ?_, fun k o' hk => ?_⟩
  · exact (Below.trans hX.gr (Below.mono b1 (by omega))).setCell (Nat.le_refl _) _
  · rw [World.frozen?_setCell]
    exact (b1.frozen (p := ⟨Wb.heap.size, 0, none⟩) (show Wb.heap.size < Wb.heap.size + 1 by omega)).trans hX.lf
  · rw [List.length_append]
    exact hset _ _ _ _ _ hown
  · have hlx : xs'.length = os.length := by have := hxs.1; omega
    by_cases e : k < os.length
    · rw [List.getElem?_append_left e] at hk
      obtain ⟨Ak, ck, h3, h4, h5⟩ := k2 k o' hk
      exact ⟨Ak, ck, by rw [List.getElem?_append_left (by omega)]; exact h3, hset _ _ _ _ _ (hlist _ _ _ h4), h5⟩
    · have hk2 : k = os.length := by
        have := (List.getElem?_eq_some_iff.1 hk).1
        rw [List.length_append, List.length_singleton] at this
        omega
      subst hk2
      rw [List.getElem?_append_right (by omega), Nat.sub_self] at hk
      simp at hk
      subst hk
      exact ⟨A, ca, by rw [List.getElem?_append_right (by omega), hlx, Nat.sub_self]; rfl, hset _ _ _ _ _ (hlist _ _ _ hl), hol⟩
theorem OS.lb {Wb W X w3 : World} {os : List (List (Nat × Nat))} {v : Value} (h : OS Wb W v os) (g1 : Gr W X) (hgrow : X.grownBy w3 v.ownBlock) : w3.cell? ⟨Wb.heap.size, 0, none⟩ = some v ∧ w3.frozen? ⟨Wb.heap.size, 0, none⟩ = false := by
  have hX := h.keep g1
  obtain ⟨xs, k1, -⟩ := h.own
  have hlow : ∀ k, v.ownBlock = some k → Wb.heap.size + 1 ≤ k := fun k e => (k1.lt k e).1
  have b1 : Below (Wb.heap.size + 1) X w3 := (Below.refl _ _).grown hgrow hX.sz hlow
  exact ⟨(b1.cell (p := ⟨Wb.heap.size, 0, none⟩) (show Wb.heap.size < Wb.heap.size + 1 by omega)).trans hX.lc, (b1.frozen (p := ⟨Wb.heap.size, 0, none⟩) (show Wb.heap.size < Wb.heap.size + 1 by omega)).trans hX.lf⟩
/-- The options, for the closure. -/
theorem OS.opts {Wb W : World} {os : List (List (Nat × Nat))} {A : Option Addr} {n c : Nat} (h : OS Wb W (.slice A n c) os) : OptsAt W A os := fun h0 => by
  obtain ⟨xs, h1, h2⟩ := h.own
  have hce := fun g (hg : (Value.slice A n c).ownBlock = some g) => h1.cells hg
  rcases h1.2 with ⟨e1, e2⟩ | ⟨g, cap, cur, e1, -, e3, -⟩
  · omega
  · cases e1
    refine ⟨g, 0, rfl, (Array.getElem?_eq_some_iff.1 e3).1, fun i o hi => ?_⟩
    obtain ⟨Ai, ci, h3, h4, h5⟩ := h2 i o hi
    have := hce g rfl i _ h3
    obtain ⟨A2, c2, e4, h6, -⟩ := rows_of_own h4 (frF o) (fun i j hi hj => frCells_at _ i j hi hj)
    cases e4
    rw [Addr.add_lit] at this
    exact ⟨Ai, ci, this, h6, h5⟩
theorem cell_one_new (w : World) (x : Value) (t : TypeId) : ∀ j u, [x][j]? = some u → (w.alloc (.cells #[x] t)).cell? ((⟨w.heap.size, 0, none⟩ : Addr).add j) = some u := by
  intro j u hj
  match j, hj with
  | 0, hj => simp at hj; subst hj; simp [Addr.add]
theorem lenz (n : Nat) : decide (n = 0) = ((n : Int) == 0) := by rw [Bool.eq_iff_iff]; simp
theorem infoFretL : (Tryd.prog.info? 25).map (fun i => (i.zero, i.size, i.bytes)) = some (some (.slice none 0 0), 1, 24) := by kernel_rfl
theorem capI (os : List (List (Nat × Nat))) (l : List (Nat × Nat)) : ((capP (os ++ [l]) : Nat) : Int) = min ((capP os : Int) * max (l.length : Int) 1) 10001 := by
  have e : ((capP os * max l.length 1 : Nat) : Int) = (capP os : Int) * max (l.length : Int) 1 := by rw [Int.natCast_mul]; congr 1; omega
  rw [capP_snoc, ← e]
  omega

set_option maxRecDepth 100000 in
set_option maxHeartbeats 16000000 in
theorem fchord_bad (O Q : Option Addr) (no co nf cq : Nat) (sp tl : Int) (o q : Nat → Nat → Int) (A : Option Addr) (n c : Nat) (w : World) (hP : Primes w) (hO : RowsAt w 6 O no o) (hQ : RowsAt w 6 Q nf q) (hno : no ≤ 9223372036854775807) (hnf : nf ≤ 9223372036854775807) (hbad : neckB no o nf q sp tl = false ∨ (neckB no o nf q sp tl = true ∧ 12 < n)) :
    Calls Tryd.prog 15 #[.agg #[.slice O no co, .slice Q nf cq, .int .i64 sp, .int .i64 tl], .slice A n c] w fun e w' => e = .returned (.tuple #[.slice none 0 0, .int .i64 1]) ∧ Gr w w' := by
  have hV := fun W (g : Gr w W) => neckValid_any O Q no co nf cq sp tl o q W (hP.keep g) (hO.keep g) (hQ.keep g) hno hnf
  rcases hbad with hb0 | ⟨hb0, h12⟩
  · rw [hb0] at hV
    have HV := Lib.hid hV
    clear hV hb0 hP hO hQ
    go_enter Tryd.func15, Tryd.ntmps15
    go_wp2_with fail
    (go_at_call 13; with_reducible refine (HV.out _ (by repeat (first | with_reducible exact Gr.refl _ | with_reducible refine Gr.alloc ?_ _ | with_reducible refine Gr.drew ?_ | with_reducible refine Gr.trans ?_ (by assumption) | with_reducible refine Gr.setCell ?_ (by (try simp); (try omega)) _))).mono ?_; rintro e w' ⟨rfl, hb⟩; have hz := hb.le; obtain ⟨hc, hf⟩ := hb.cells; have hn := hb.cellsN; (try simp only [World.size_alloc] at hc hf hz hn); (try simp only [World.size_setCell] at hc hf hz hn); (try simp only [World.size_drew] at hc hf hz hn))
    go_wp2_with fail
    go_ret2
    exact ⟨rfl, (by repeat (first | with_reducible exact Gr.refl _ | with_reducible refine Gr.alloc ?_ _ | with_reducible refine Gr.drew ?_ | with_reducible refine Gr.trans ?_ (by assumption) | with_reducible refine Gr.setCell ?_ (by (try simp); (try omega)) _))⟩
  · rw [hb0] at hV
    have HV := Lib.hid hV
    have d1 : decide (12 < (n : Int)) = true := decide_eq_true (by omega)
    clear hV hb0 hP hO hQ
    go_enter Tryd.func15, Tryd.ntmps15
    go_wp2_with fail
    (go_at_call 13; with_reducible refine (HV.out _ (by repeat (first | with_reducible exact Gr.refl _ | with_reducible refine Gr.alloc ?_ _ | with_reducible refine Gr.drew ?_ | with_reducible refine Gr.trans ?_ (by assumption) | with_reducible refine Gr.setCell ?_ (by (try simp); (try omega)) _))).mono ?_; rintro e w' ⟨rfl, hb⟩; have hz := hb.le; obtain ⟨hc, hf⟩ := hb.cells; have hn := hb.cellsN; (try simp only [World.size_alloc] at hc hf hz hn); (try simp only [World.size_setCell] at hc hf hz hn); (try simp only [World.size_drew] at hc hf hz hn))
    go_wp2_with fail
    go_ret2
    exact ⟨rfl, (by repeat (first | with_reducible exact Gr.refl _ | with_reducible refine Gr.alloc ?_ _ | with_reducible refine Gr.drew ?_ | with_reducible refine Gr.trans ?_ (by assumption) | with_reducible refine Gr.setCell ?_ (by (try simp); (try omega)) _))⟩

set_option maxRecDepth 100000 in
set_option maxHeartbeats 16000000 in
theorem fchord_in (O Q : Option Addr) (no co nf cq : Nat) (sp tl : Int) (o q : Nat → Nat → Int) (A : Option Addr) (n c : Nat) (f : Nat → Nat → Int) (w : World) (hP : Primes w) (hL : Logs w) (hO : RowsAt w 6 O no o) (hQ : RowsAt w 6 Q nf q) (hA : RowsAt w 6 A n f) (hno : no ≤ 9223372036854775807) (hnf : nf ≤ 9223372036854775807) (hok : neckB no o nf q sp tl = true) (hn : n ≤ 12) :
    Calls Tryd.prog 15 #[.agg #[.slice O no co, .slice Q nf cq, .int .i64 sp, .int .i64 tl], .slice A n c] w (FrR (chordE no o nf q sp tl f n) (chordL no o nf q sp tl f n) w) := by
  have hV := fun W (g : Gr w W) => neckValid_any O Q no co nf cq sp tl o q W (hP.keep g) (hO.keep g) (hQ.keep g) hno hnf
  rw [hok] at hV
  have hlim := (neckB_parts hok).1
  have hFO := fun (i : Nat) W (g : Gr w W) (hv : allIn (rowV f i) 48 6 = true) => (show Calls Tryd.prog 22 #[.agg #[.slice O no co, .slice Q nf cq, .int .i64 sp, .int .i64 tl], .agg #[.int .i64 (f i 0), .int .i64 (f i 1), .int .i64 (f i 2), .int .i64 (f i 3), .int .i64 (f i 4), .int .i64 (f i 5)]] W (FrR 0 ((findF no o nf q tl) (rowV f i)) W) from ffind_ok O Q no co nf cq sp tl o q (f i 0) (f i 1) (f i 2) (f i 3) (f i 4) (f i 5) W (hP.keep g) (hL.keep g) (hO.keep g) (hQ.keep g) hno hnf hok hv)
  have hFB := fun (i : Nat) W (g : Gr w W) (hv : allIn (rowV f i) 48 6 = false) => ffind_bad O Q no co nf cq sp tl o q (f i 0) (f i 1) (f i 2) (f i 3) (f i 4) (f i 5) W (hP.keep g) (hO.keep g) (hQ.keep g) hno hnf (by rw [show allIn ⟨f i 0, f i 1, f i 2, f i 3, f i 4, f i 5⟩ 48 6 = false from hv, Bool.and_false])
  have hFL : ∀ v, ((findF no o nf q tl) v).length ≤ 296 := fun v => by
    have z1 := onAll_len (playsF o q tl v) (nf + 1) no
    have z3 : no * (nf + 1) ≤ 8 * 37 := Nat.mul_le_mul (by omega) (by omega)
    show (onAll (playsF o q tl v) (nf + 1) no).length ≤ 296
    omega
  have hF36 : ∀ v, ∀ x ∈ (findF no o nf q tl) v, x.2 ≤ 36 := fun v x hx => by
    have := (mem_onAll.1 hx).2.1
    omega
  have HCE : Hid (vecsB f n = true → (chordE no o nf q sp tl f n) = chE sp (optsF (findF no o nf q tl) f n) ∧ (chordL no o nf q sp tl f n) = chL sp (optsF (findF no o nf q tl) f n)) := Lib.hid (fun h => by
    unfold chordE chordL chordOk; rw [hok, h, decide_eq_true hn]; exact ⟨rfl, rfl⟩)
  have HCB : Hid (vecsB f n = false → (chordE no o nf q sp tl f n) = 1 ∧ (chordL no o nf q sp tl f n) = []) := Lib.hid (fun h => by
    unfold chordE chordL chordOk; rw [hok, h, Bool.and_false, Bool.and_false]; exact ⟨rfl, rfl⟩)
  have d1 : decide (12 < (n : Int)) = false := decide_eq_false (by omega)
  have HV := Lib.hid hV; have HFO := Lib.hid hFO; have HFB := Lib.hid hFB; have HFL := Lib.hid hFL; have HF36 := Lib.hid hF36
  have HA := Lib.hid hA
  obtain ⟨i0, hinfo, hy0, hy1, hy2⟩ := info_parts infoFretL
  have HINF := Lib.hid (And.intro hinfo (And.intro hy0 (And.intro hy1 hy2)))
  clear hV hFO hFB hFL hF36 hP hL hO hQ hA hok hlim hinfo hy0 hy1 hy2
  generalize (chordE no o nf q sp tl f n) = CE at *
  generalize (chordL no o nf q sp tl f n) = CL at *
  generalize (findF no o nf q tl) = F at *
  go_enter Tryd.func15, Tryd.ntmps15
  go_wp2_with fail
  (go_at_call 13; with_reducible refine (HV.out _ (by repeat (first | with_reducible exact Gr.refl _ | with_reducible refine Gr.alloc ?_ _ | with_reducible refine Gr.drew ?_ | with_reducible refine Gr.trans ?_ (by assumption) | with_reducible refine Gr.setCell ?_ (by (try simp); (try omega)) _))).mono ?_; rintro e w' ⟨rfl, hb⟩; have hz := hb.le; obtain ⟨hc, hf⟩ := hb.cells; have hn := hb.cellsN; (try simp only [World.size_alloc] at hc hf hz hn); (try simp only [World.size_setCell] at hc hf hz hn); (try simp only [World.size_drew] at hc hf hz hn))
  have HNB : Hid (NeckAt w' w.heap.size O Q no co nf cq sp tl) := Lib.hid ⟨by omega, by simp [go_sem, *], by simp [go_sem, *], by simp [go_sem, *], by simp [go_sem, *]⟩
  have HG := Lib.hid (show Gr w w' from (by repeat (first | with_reducible exact Gr.refl _ | with_reducible refine Gr.alloc ?_ _ | with_reducible refine Gr.drew ?_ | with_reducible refine Gr.trans ?_ (by assumption) | with_reducible refine Gr.setCell ?_ (by (try simp); (try omega)) _)))
  clear hb hz hc hf hn HV
  obtain ⟨Wb, rfl⟩ : ∃ Wb : World, Wb = w' := ⟨_, rfl⟩
  have HOS0 : Hid (OS Wb (Wb.alloc (.cells #[.slice none 0 0] 64)) (.slice none 0 0) (optsF F f 0)) := Lib.hid ⟨(Gr.refl _).alloc _, by simp, by simp [go_sem], by simp [go_sem], [], World.ownsRow_nil _ _ _ _, fun k o h => by simp [optsF] at h⟩
  go_wp2_with fail
  go_loopw [7, 8, 25] (fun nv lv iv wr => ∃ (i : Nat) (v : Value), i ≤ n ∧ nv = .bool (noneB (optsF F f i)) ∧ lv = .int .i64 ((capP (optsF F f i) : Nat) : Int) ∧ iv = .int .i64 (i : Int) ∧ vecsB f i = true ∧ OS Wb wr v (optsF F f i)) (fun _ _ iv _ => n - (intOf iv).toNat)
  case atStart => exact ⟨0, _, Nat.zero_le _, rfl, rfl, rfl, rfl, HOS0.out⟩
  case round =>
    obtain ⟨i, v, hin, rfl, rfl, rfl, hvi, hS⟩ := hrel
    have HVI := Lib.hid hvi; have HS := Lib.hid hS
    have hlc := hS.lc; have hlf := hS.lf; have hsz := hS.sz
    have HGR := Lib.hid hS.gr
    obtain ⟨hl0, b0, b1, b2, b3⟩ := HNB.out.keep hS.gr
    have hcr := capP_range (optsF F f i)
    clear hvi hS HOS0
    obtain ⟨wo, rfl⟩ : ∃ wo : World, wo = wr := ⟨_, rfl⟩
    by_cases hlt : i < n
    · obtain ⟨b, off, rfl, hbl, c0, c1, c2, c3, c4, c5⟩ := (HA.out.keep (HG.out.trans HGR.out)).six hlt
      have hlt' : decide ((i : Int) < (n : Int)) = true := decide_eq_true (by omega)
      rcases bool_tf (allIn (rowV f i) 48 6) with hv | hv
      · have HE : Hid (optsF F f (i + 1) = optsF F f i ++ [F (rowV f i)]) := Lib.hid rfl
        have HVN := Lib.hid (vecsB_next HVI.out hv)
        have hFc := fun W (g : Gr w W) => HFO.out i W g hv
        have hl296 := HFL.out (rowV f i)
        have HFc := Lib.hid hFc
        have hlenA : (optsF F f i).length ≤ i := Nat.le_of_eq (optsF_len F f i)
        clear hFc hv
        generalize F (rowV f i) = l at *
        generalize optsF F f i = os at *
        go_wp2_with fail
        go_at_call 22
        refine (HFc.out _ (HG.out.trans (HGR.out.trans (by repeat (first | with_reducible exact Gr.refl _ | with_reducible refine Gr.alloc ?_ _ | with_reducible refine Gr.drew ?_ | with_reducible refine Gr.trans ?_ (by assumption) | with_reducible refine Gr.setCell ?_ (by (try simp); (try omega)) _))))).mono ?_
        rintro e w3 ⟨A2, c2', rfl, hown2, hrows2, hl2, hlc2, hb⟩
        have hgr3 : Gr wo w3 := (show Gr wo _ from (by repeat (first | with_reducible exact Gr.refl _ | with_reducible refine Gr.alloc ?_ _ | with_reducible refine Gr.drew ?_ | with_reducible refine Gr.trans ?_ (by assumption) | with_reducible refine Gr.setCell ?_ (by (try simp); (try omega)) _))).trans hb
        have hS3 := HS.out.keep hgr3
        have hlc3 := hS3.lc; have hlf3 := hS3.lf; have hsz3 := hS3.sz
        obtain ⟨xs, hxs, -⟩ := hS3.own
        have HXS := Lib.hid hxs
        have HS3 := Lib.hid hS3
        have HLO := Lib.hid (own_mono hown2 (b' := Wb.heap.size + 1) (by simp; omega))
        have hpr0 : 0 ≤ (capP os : Int) * max (l.length : Int) 1 := Int.mul_nonneg (by omega) (by omega)
        have hpr1 : (capP os : Int) * max (l.length : Int) 1 ≤ 10001 * 296 := Int.mul_le_mul (by omega) (by omega) (by omega) (by omega)
        have hpe : True := trivial
        clear hlc hlf hsz hl0 b0 b1 b2 b3 c0 c1 c2 c3 c4 c5 hown2 hrows2 hlc2 hb hgr3 hS3 hxs HS HFc
        rcases bool_tf (noneB os) with hnb | hnb
        · have HNB1 := Lib.hid hnb
          rw [hnb]
          have hw1 : IntKind.i64.wrap ((capP os : Int) * max (l.length : Int) 1) = (capP os : Int) * max (l.length : Int) 1 := IntWalk.i64_in _ ⟨by omega, by omega⟩
          have HCI := Lib.hid (capI os l)
          clear hpr0 hpr1
          have hw2 : wrap64 ((capP os : Int) * max (l.length : Int) 1) = (capP os : Int) * max (l.length : Int) 1 := (IntWalk.i64_left _).symm.trans hw1
          have HLZ := Lib.hid (lenz l.length)
          go_wp2_with (at_builtin; refine wpList_append_lies _ rfl (.tmp 50) (.tmp 52) 64 rfl (Wb.heap.size + 1) 25 i0 (.slice none 0 0) 1 24 Tryd.underlying64 HINF.out.1 HINF.out.2.1 HINF.out.2.2.1 HINF.out.2.2.2 rfl (by decide) _ _ _ rfl (HXS.out.alloc _) ⟨w3.heap.size, 0, none⟩ 1 1 [.slice A2 l.length c2'] rfl rfl (cell_one_new _ _ _) (by simp [Value.oneCell']) (by decide) (by unfold maxLen; omega) (by omega) (by simp; omega) _ rfl ?_; intro g' cap' w4 hown hgrow hat hlt3; obtain ⟨hlb, hlbf⟩ := HS3.out.lb ((Gr.refl _).alloc _) hgrow)
          have HN := Lib.hid (HS3.out.push (o := l) ((Gr.refl _).alloc _) HXS.out HLO.out (by omega) hown hgrow)
          clear hown hgrow hat hlt3 hlb hlbf
          go_wp2_with fail
          go_roundw
          case rel => exact ⟨i + 1, _, by omega, by rw [HE.out, noneB_snoc, HNB1.out]; rfl, by rw [HE.out, HCI.out], by go_num, HVN.out, by rw [HE.out]; exact HN.out⟩
          case measure => simp [intOf]; omega
        · have HNB1 := Lib.hid hnb
          rw [hnb]
          have hw1 : IntKind.i64.wrap ((capP os : Int) * max (l.length : Int) 1) = (capP os : Int) * max (l.length : Int) 1 := IntWalk.i64_in _ ⟨by omega, by omega⟩
          have HCI := Lib.hid (capI os l)
          clear hpr0 hpr1
          have hw2 : wrap64 ((capP os : Int) * max (l.length : Int) 1) = (capP os : Int) * max (l.length : Int) 1 := (IntWalk.i64_left _).symm.trans hw1
          have HLZ := Lib.hid (lenz l.length)
          go_wp2_with (at_builtin; refine wpList_append_lies _ rfl (.tmp 50) (.tmp 52) 64 rfl (Wb.heap.size + 1) 25 i0 (.slice none 0 0) 1 24 Tryd.underlying64 HINF.out.1 HINF.out.2.1 HINF.out.2.2.1 HINF.out.2.2.2 rfl (by decide) _ _ _ rfl (HXS.out.alloc _) ⟨w3.heap.size, 0, none⟩ 1 1 [.slice A2 l.length c2'] rfl rfl (cell_one_new _ _ _) (by simp [Value.oneCell']) (by decide) (by unfold maxLen; omega) (by omega) (by simp; omega) _ rfl ?_; intro g' cap' w4 hown hgrow hat hlt3; obtain ⟨hlb, hlbf⟩ := HS3.out.lb ((Gr.refl _).alloc _) hgrow)
          have HN := Lib.hid (HS3.out.push (o := l) ((Gr.refl _).alloc _) HXS.out HLO.out (by omega) hown hgrow)
          clear hown hgrow hat hlt3 hlb hlbf
          go_wp2_with fail
          go_roundw
          case rel => exact ⟨i + 1, _, by omega, by rw [HE.out, noneB_snoc, HNB1.out, Bool.false_or, HLZ.out], by rw [HE.out, HCI.out], by go_num, HVN.out, by rw [HE.out]; exact HN.out⟩
          case measure => simp [intOf]; omega
      · obtain ⟨hce, hcl⟩ := HCB.out (vecsB_no hlt hv)
        have hFc := fun W (g : Gr w W) => HFB.out i W g hv
        have HFc := Lib.hid hFc
        have HC1 := Lib.hid (And.intro hce hcl)
        clear hFc hv hce hcl
        go_wp2_with fail
        (go_at_call 22; with_reducible refine (HFc.out _ (HG.out.trans (HGR.out.trans (by repeat (first | with_reducible exact Gr.refl _ | with_reducible refine Gr.alloc ?_ _ | with_reducible refine Gr.drew ?_ | with_reducible refine Gr.trans ?_ (by assumption) | with_reducible refine Gr.setCell ?_ (by (try simp); (try omega)) _))))).mono ?_; rintro e w' ⟨rfl, hb⟩; have hz := hb.le; obtain ⟨hc, hf⟩ := hb.cells; have hn := hb.cellsN; (try simp only [World.size_alloc] at hc hf hz hn); (try simp only [World.size_setCell] at hc hf hz hn); (try simp only [World.size_drew] at hc hf hz hn))
        go_wp2_with fail
        go_ret2
        rw [HC1.out.1, HC1.out.2]
        exact frR_none ⟨rfl, HG.out.trans (HGR.out.trans (by repeat (first | with_reducible exact Gr.refl _ | with_reducible refine Gr.alloc ?_ _ | with_reducible refine Gr.drew ?_ | with_reducible refine Gr.trans ?_ (by assumption) | with_reducible refine Gr.setCell ?_ (by (try simp); (try omega)) _)))⟩
    · obtain rfl : n = i := by omega
      have HCE1 := Lib.hid (HCE.out HVI.out)
      have hlen := optsF_len F f n
      have hlt' : decide ((n : Int) < (n : Int)) = false := decide_eq_false (by omega)
      have HOP : Hid (∀ o ∈ optsF F f n, ∀ x ∈ o, x.2 ≤ 36) := Lib.hid (fun o ho => by
        obtain ⟨k, hk⟩ := List.getElem?_of_mem ho
        have hkn : k < n := by have := (List.getElem?_eq_some_iff.1 hk).1; omega
        rw [optsF_at F f hkn] at hk
        cases hk
        exact HF36.out _)
      generalize optsF F f n = os at *
      rcases bool_tf (noneB os) with hnb | hnb
      · have HE1 : Hid (chE sp os = 4 ∧ chL sp os = []) := Lib.hid (by unfold chE chL; rw [hnb]; exact ⟨rfl, rfl⟩)
        rw [hnb]
        go_wp2_with fail
        go_ret2
        rw [HCE1.out.1, HCE1.out.2, HE1.out.1, HE1.out.2]
        exact frR_none ⟨rfl, HG.out.trans HGR.out⟩
      · by_cases hcp : 10000 < capP os
        · have HE1 : Hid (chE sp os = 2 ∧ chL sp os = []) := Lib.hid (by unfold chE chL; rw [hnb, if_pos hcp]; exact ⟨rfl, by simp [hcp]⟩)
          have hcb : decide (10000 < ((capP os : Nat) : Int)) = true := decide_eq_true (by omega)
          have hcb2 : decide (10000 < capP os) = true := decide_eq_true hcp
          rw [hnb]
          go_wp2_with fail
          go_ret2
          rw [HCE1.out.1, HCE1.out.2, HE1.out.1, HE1.out.2]
          exact frR_none ⟨rfl, HG.out.trans HGR.out⟩
        · have hcb : decide (10000 < ((capP os : Nat) : Int)) = false := decide_eq_false (by omega)
          have hcb2 : decide (10000 < capP os) = false := decide_eq_false hcp
          rw [hnb]
          obtain ⟨xs, hxs, -⟩ := HS.out.own
          obtain ⟨Av, cv, rfl⟩ : ∃ (Av : Option Addr) (cv : Nat), v = .slice Av os.length cv := by
            rcases hxs.2 with ⟨rfl, h⟩ | ⟨g, cap, cur, rfl, -⟩
            · exact ⟨none, 0, by rw [h]⟩
            · exact ⟨_, _, rfl⟩
          have hOl : Wb.heap.size < wo.heap.size := by omega
          have HOPT := Lib.hid HS.out.opts
          have HLC := Lib.hid hlc
          have HNBo := Lib.hid (HNB.out.keep HGR.out)
          clear hxs hlc hlf
          go_upto_region 22 with fail
          have hSt : St wo Wb.heap.size w.heap.size ((wo.alloc (.cells #[.slice none 0 0] 25)).alloc (.cells #[.func (.func 38) #[] #[.pointer (some ⟨wo.heap.size, 0, none⟩), .pointer (some ⟨Wb.heap.size, 0, none⟩), .pointer (some ⟨w.heap.size, 0, none⟩), .pointer (some ⟨wo.heap.size + 1, 0, none⟩)]] 27)) [] (.slice none 0 0) :=
            ⟨((Gr.refl _).alloc _).alloc _, by simp, by simp [go_sem], by simp [go_sem], by simp [go_sem], World.ownsRow_nil _ _ _ _⟩
          have hN := next_any O Q no co nf cq Wb.heap.size w.heap.size cv sp tl Av os wo HOP.out (by omega) HOPT.out hOl HLC.out HNBo.out os [] [] _ _ (by simp) rfl (by simp) hSt
          have HN := Lib.hid hN
          have hxc := hSt.xc
          clear hN hSt
          generalize (wo.alloc (.cells #[.slice none 0 0] 25)).alloc (.cells #[.func (.func 38) #[] #[.pointer (some ⟨wo.heap.size, 0, none⟩), .pointer (some ⟨Wb.heap.size, 0, none⟩), .pointer (some ⟨w.heap.size, 0, none⟩), .pointer (some ⟨wo.heap.size + 1, 0, none⟩)]] 27) = WX at *
          go_wp2_with fail
          go_at_call 38
          refine HN.out.mono ?_
          rintro e w5 ⟨rfl, ext, v', hS5, hr5⟩
          rw [List.nil_append] at hS5 hr5
          have hlc5 := hS5.lc
          have HS5 := Lib.hid hS5; have HR5 := Lib.hid hr5
          clear hS5 hr5 hxc
          cases hs : srch sp os [] with
          | none =>
            have HE1 : Hid (chE sp os = 20 ∧ chL sp os = []) := Lib.hid (by unfold chE chL; rw [hnb, hs]; simp [hcp])
            clear hs
            simp only [Option.isSome_none]
            go_wp2_with fail
            go_ret2
            rw [HCE1.out.1, HCE1.out.2, HE1.out.1, HE1.out.2]
            exact frR_none ⟨rfl, HG.out.trans (HGR.out.trans HS5.out.gr)⟩
          | some r =>
            have HE1 : Hid (chE sp os = 0 ∧ chL sp os = r) := Lib.hid (by unfold chE chL; rw [hnb, hs]; simp [hcp])
            obtain rfl := HR5.out r hs
            obtain ⟨l', hl', hd', -⟩ := srch_some (by rfl) hs
            have hlen5 : ext.length ≤ 12 := by
              have := hd'.len
              rw [List.nil_append] at hl'
              rw [hl', this]; omega
            clear hs hl' hd'
            obtain ⟨A5, c5, rfl, hrows5, -⟩ := rows_of_own HS5.out.own (frF ext) (fun i j hi hj => frCells_at _ i j hi hj)
            have hcap5 := own_cap HS5.out.own
            have HR6 := Lib.hid (And.intro hrows5 (And.intro hcap5 hlen5))
            clear hrows5 hcap5 hlen5
            simp only [Option.isSome_some]
            go_wp2_with fail
            go_ret2
            rw [HCE1.out.1, HCE1.out.2, HE1.out.1, HE1.out.2]
            have hfin := HG.out.trans (HGR.out.trans HS5.out.gr)
            have hle1 := HG.out.le
            have hle2 := HGR.out.le
            exact ⟨A5, c5, rfl, own_mono HS5.out.own (by omega), HR6.out.1, by have := HR6.out.2.2; omega, HR6.out.2.1, hfin⟩
theorem fchord_any (O Q : Option Addr) (no co nf cq : Nat) (sp tl : Int) (o q : Nat → Nat → Int) (A : Option Addr) (n c : Nat) (f : Nat → Nat → Int) (w : World) (hP : Primes w) (hL : Logs w) (hO : RowsAt w 6 O no o) (hQ : RowsAt w 6 Q nf q) (hA : RowsAt w 6 A n f) (hno : no ≤ 9223372036854775807) (hnf : nf ≤ 9223372036854775807) (_hn : n ≤ 9223372036854775807) :
    Calls Tryd.prog 15 #[.agg #[.slice O no co, .slice Q nf cq, .int .i64 sp, .int .i64 tl], .slice A n c] w (FrR (chordE no o nf q sp tl f n) (chordL no o nf q sp tl f n) w) := by
  rcases bool_tf (neckB no o nf q sp tl) with hok | hok
  · by_cases hn : n ≤ 12
    · exact fchord_in O Q no co nf cq sp tl o q A n c f w hP hL hO hQ hA hno hnf hok hn
    · have e1 : (chordE no o nf q sp tl f n) = 1 := by unfold chordE chordOk; rw [decide_eq_false hn, Bool.false_and, Bool.and_false]; rfl
      have e2 : (chordL no o nf q sp tl f n) = [] := by unfold chordL chordOk; rw [decide_eq_false hn, Bool.false_and, Bool.and_false]; rfl
      rw [e1, e2]
      exact (fchord_bad O Q no co nf cq sp tl o q A n c w hP hO hQ hno hnf (.inr ⟨hok, by omega⟩)).mono fun e w' h => frR_none h
  · have e1 : (chordE no o nf q sp tl f n) = 1 := by unfold chordE chordOk; rw [hok, Bool.false_and]; rfl
    have e2 : (chordL no o nf q sp tl f n) = [] := by unfold chordL chordOk; rw [hok, Bool.false_and]; rfl
    rw [e1, e2]
    exact (fchord_bad O Q no co nf cq sp tl o q A n c w hP hO hQ hno hnf (.inl hok)).mono fun e w' h => frR_none h
end Go.Proofs.YtohalcookjbaaaaDoor
