/-
  frets.Chord: the closure that searches the first list.
-/
import Derived.Test.YtohalcookjbaaaaDoorNkH
import Derived.Test.YtohalcookjbaaaaDoorNkL
import Derived.Deep.RegionLaw
namespace Go.Proofs.YtohalcookjbaaaaDoor
open Go.RowKit

/-- The options in memory. -/
def OptsAt (W : World) (A : Option Addr) (os : List (List (Nat × Nat))) : Prop := 0 < os.length → ∃ b off, A = some ⟨b, off, none⟩ ∧ b < W.heap.size ∧ ∀ (i : Nat) (o : List (Nat × Nat)), os[i]? = some o → ∃ (Ai : Option Addr) (ci : Nat), W.cell? ⟨b, off + i, none⟩ = some (.slice Ai o.length ci) ∧ RowsAt W 2 Ai o.length (frF o) ∧ o.length ≤ 4611686018427387904
theorem OptsAt.keep {W W' : World} {A : Option Addr} {os : List (List (Nat × Nat))} (h : OptsAt W A os) (g : Gr W W') : OptsAt W' A os := fun h0 => by
  obtain ⟨b, off, e, hb, hc⟩ := h h0
  refine ⟨b, off, e, Nat.lt_of_lt_of_le hb g.le, fun i o ho => ?_⟩
  obtain ⟨Ai, ci, h1, h2, h3⟩ := hc i o ho
  exact ⟨Ai, ci, (Below.cell (p := ⟨b, off + i, none⟩) g hb).trans h1, h2.keep g, h3⟩
/-- The state between two calls of the closure: the list so far in its box. -/
structure St (W1 : World) (OB NB : Nat) (W : World) (l : List (Nat × Nat)) (v : Value) : Prop where
  gr : Gr W1 W
  sz : W1.heap.size + 1 + 1 ≤ W.heap.size
  xc : W.cell? ⟨W1.heap.size + 1, 0, none⟩ = some (.func (.func 38) #[] #[.pointer (some ⟨W1.heap.size, 0, none⟩), .pointer (some ⟨OB, 0, none⟩), .pointer (some ⟨NB, 0, none⟩), .pointer (some ⟨W1.heap.size + 1, 0, none⟩)])
  lc : W.cell? ⟨W1.heap.size, 0, none⟩ = some v
  lf : W.frozen? ⟨W1.heap.size, 0, none⟩ = false
  own : W.ownsRow (W1.heap.size + 1 + 1) 37 2 v l.length (frCells l)
theorem St.keep {W1 W W' : World} {OB NB : Nat} {l : List (Nat × Nat)} {v : Value} (h : St W1 OB NB W l v) (g : Gr W W') : St W1 OB NB W' l v := by
  have := h.sz
  exact ⟨h.gr.trans g, Nat.le_trans h.sz g.le, (Below.cell (p := ⟨W1.heap.size + 1, 0, none⟩) g (show W1.heap.size + 1 < W.heap.size by omega)).trans h.xc, (Below.cell (p := ⟨W1.heap.size, 0, none⟩) g (show W1.heap.size < W.heap.size by omega)).trans h.lc, (Below.frozen (p := ⟨W1.heap.size, 0, none⟩) g (show W1.heap.size < W.heap.size by omega)).trans h.lf, own_keep h.own g⟩
theorem frCells_append (l r : List (Nat × Nat)) : frCells (l ++ r) = frCells l ++ frCells r := by simp [frCells]
/-- The list cut behind its first places. -/
theorem own_cut {W : World} {base g c : Nat} {e : TypeId} {l r : List (Nat × Nat)} (h : W.ownsRow base e 2 (.slice (some ⟨g, 0, none⟩) (l ++ r).length c) (l ++ r).length (frCells (l ++ r))) : W.ownsRow base e 2 (.slice (some ⟨g, 0, none⟩) l.length c) l.length (frCells l) := by
  rcases h.2 with ⟨h1, _⟩ | ⟨g', cap, cur, h1, h2, h3, h4, h5, h6, h7⟩
  · cases h1
  · cases h1
    have e1 : (frCells (l ++ r)).take (l.length * 2) = frCells l := by rw [frCells_append, List.take_left' (frCells_len l)]
    have e2 : cur.toList.take (l.length * 2) = (cur.toList.take ((l ++ r).length * 2)).take (l.length * 2) := by
      rw [List.take_take, Nat.min_eq_left]; rw [List.length_append]; omega
    rw [List.length_append] at h4
    exact ⟨frCells_len l, .inr ⟨g, c, cur, rfl, h2, h3, by omega, h5, h6, e2.trans (by rw [h7]; exact e1)⟩⟩
/-- Behind an append and the store into the box. -/
theorem St.push {W1 W X w3 : World} {OB NB g cap : Nat} {l l' : List (Nat × Nat)} {v v0 : Value} {p : Nat × Nat} (h : St W1 OB NB W l v) (g1 : Gr W X)
    (hv : v0.ownBlock = v.ownBlock)
    (hown : w3.ownsRow (W1.heap.size + 1 + 1) 37 2 (.slice (some ⟨g, 0, none⟩) (l'.length + 1) cap) (l'.length + 1) (frCells l' ++ [.int .i64 (p.1 : Int), .int .i64 (p.2 : Int)])) (hgrow : X.grownBy w3 v0.ownBlock) :
    St W1 OB NB (w3.setCell ⟨W1.heap.size, 0, none⟩ (.slice (some ⟨g, 0, none⟩) (l'.length + 1) cap)) (l' ++ [p]) (.slice (some ⟨g, 0, none⟩) (l'.length + 1) cap) := by
  have hX := h.keep g1
  have hlow : ∀ k, v0.ownBlock = some k → W1.heap.size + 1 + 1 ≤ k := fun k e => by rw [hv] at e; exact (h.own.lt k e).1
  have b1 : Below (W1.heap.size + 1 + 1) X w3 := (Below.refl _ _).grown hgrow hX.sz hlow
  have hz3 : W1.heap.size + 1 + 1 ≤ w3.heap.size := Nat.le_trans hX.sz hgrow.size
  have hcl : w3.cell? ⟨W1.heap.size, 0, none⟩ = some v := (b1.cell (p := ⟨W1.heap.size, 0, none⟩) (show W1.heap.size < W1.heap.size + 1 + 1 by omega)).trans hX.lc
  have hgl : W1.heap.size + 1 + 1 ≤ g := (hown.lt g rfl).1
  refine ⟨?_, by rw [World.size_setCell]; exact hz3, ?_, ?_, ?_, ?_⟩
  · exact (Below.trans hX.gr (Below.mono b1 (by omega))).setCell (Nat.le_refl _) _
  · have := (b1.cell (p := ⟨W1.heap.size + 1, 0, none⟩) (show W1.heap.size + 1 < W1.heap.size + 1 + 1 by omega)).trans hX.xc
    simp [go_sem, this]
  · simp [go_sem, hcl]
  · rw [World.frozen?_setCell]
    exact (b1.frozen (p := ⟨W1.heap.size, 0, none⟩) (show W1.heap.size < W1.heap.size + 1 + 1 by omega)).trans hX.lf
  · rw [List.length_append, frCells_snoc]
    refine hown.kept (Go.grownBy_setCell' w3 W1.heap.size _) (.inr ?_)
    simp only [Value.ownBlock, ne_eq, Option.some.injEq]
    omega
theorem St.lb {W1 W X w3 : World} {OB NB : Nat} {l : List (Nat × Nat)} {v v0 : Value} (h : St W1 OB NB W l v) (g1 : Gr W X) (hv : v0.ownBlock = v.ownBlock) (hgrow : X.grownBy w3 v0.ownBlock) : w3.cell? ⟨W1.heap.size, 0, none⟩ = some v ∧ w3.frozen? ⟨W1.heap.size, 0, none⟩ = false := by
  have hX := h.keep g1
  have hlow : ∀ k, v0.ownBlock = some k → W1.heap.size + 1 + 1 ≤ k := fun k e => by rw [hv] at e; exact (h.own.lt k e).1
  have b1 : Below (W1.heap.size + 1 + 1) X w3 := (Below.refl _ _).grown hgrow hX.sz hlow
  exact ⟨(b1.cell (p := ⟨W1.heap.size, 0, none⟩) (show W1.heap.size < W1.heap.size + 1 + 1 by omega)).trans hX.lc, (b1.frozen (p := ⟨W1.heap.size, 0, none⟩) (show W1.heap.size < W1.heap.size + 1 + 1 by omega)).trans hX.lf⟩
theorem frF_range {l : List (Nat × Nat)} (h : ∀ x ∈ l, x.2 ≤ 36) : ∀ i, i < l.length → 0 ≤ frF l i 1 ∧ frF l i 1 ≤ 1000 := fun i hi => by
  have e : frF l i 1 = ((l[i]'hi).2 : Int) := by simp [frF, List.getD, hi]
  have := h _ (List.getElem_mem hi)
  rw [e]; omega

theorem findSome_hit {α β : Type} {g : α → Option β} : ∀ {l : List α} {j : Nat} {a : α} {b : β}, l[j]? = some a → g a = some b → (∀ (i : Nat) (x : α), i < j → l[i]? = some x → g x = none) → l.findSome? g = some b
  | [], j, a, b, h, _, _ => by simp at h
  | y :: l, 0, a, b, h, h2, _ => by
    simp at h; subst h; rw [List.findSome?_cons, h2]
  | y :: l, j + 1, a, b, h, h2, h3 => by
    rw [List.findSome?_cons, h3 0 y (by omega) rfl]
    exact findSome_hit (by simpa using h) h2 fun i x hi hx => h3 (i + 1) x (by omega) (by simpa using hx)

set_option maxRecDepth 100000 in
set_option maxHeartbeats 16000000 in
theorem next_any (O Q : Option Addr) (no co nf cq OB NB oc : Nat) (sp tl : Int) (OA : Option Addr) (os : List (List (Nat × Nat))) (W1 : World)
    (hos : ∀ o ∈ os, ∀ x ∈ o, x.2 ≤ 36) (hlen : os.length ≤ 12) (hopt : OptsAt W1 OA os) (hOB : OB < W1.heap.size) (hOC : W1.cell? ⟨OB, 0, none⟩ = some (.slice OA os.length oc)) (hNB : NeckAt W1 NB O Q no co nf cq sp tl) :
    ∀ (rest done : List (List (Nat × Nat))) (pre : List (Nat × Nat)) (v : Value) (W : World), os = done ++ rest → done.length = pre.length → (∀ x ∈ pre, x.2 ≤ 36) → St W1 OB NB W pre v →
    Calls Tryd.prog 38 #[.pointer (some ⟨W1.heap.size, 0, none⟩), .pointer (some ⟨OB, 0, none⟩), .pointer (some ⟨NB, 0, none⟩), .pointer (some ⟨W1.heap.size + 1, 0, none⟩)] W fun e w' => e = .returned (.bool (srch sp rest pre).isSome) ∧ ∃ ext v', St W1 OB NB w' (pre ++ ext) v' ∧ ∀ r, srch sp rest pre = some r → pre ++ ext = r := by
  obtain ⟨i0, hinfo, hy0, hy1, hy2⟩ := info_parts infoFret
  have HINF := Lib.hid (And.intro hinfo (And.intro hy0 (And.intro hy1 hy2)))
  have HOS := Lib.hid hos; have HOPT := Lib.hid hopt; have HNB := Lib.hid hNB
  clear hinfo hy0 hy1 hy2 hos hopt hNB
  intro rest
  induction rest with
  | nil =>
    intro done pre v W he hd hpre hS
    have HS := Lib.hid hS
    have hoc := (Below.cell (p := ⟨OB, 0, none⟩) hS.gr hOB).trans hOC
    have hol := Nat.lt_of_lt_of_le hOB hS.gr.le
    have hlc := hS.lc
    have hsz := hS.sz
    have hl : os.length = pre.length := by rw [he, List.append_nil, hd]
    obtain ⟨A', c', rfl, -, -⟩ := rows_of_own hS.own (frF pre) (fun i j hi hj => frCells_at _ i j hi hj)
    have hq : ((pre.length : Int) == (os.length : Int)) = true := by rw [hl]; simp
    have hq2 : (pre.length == os.length) = true := by rw [hl]; simp
    clear hS HOPT HOS HNB hOC he hpre hd
    have HL := Lib.hid hl
    clear hl
    go_enter Tryd.func38, Tryd.ntmps38
    go_wp2_with fail
    go_ret
    exact ⟨rfl, [], _, by rw [List.append_nil]; exact HS.out, fun r h => by simp only [srch, Option.some.injEq] at h; rw [List.append_nil]; exact h⟩
  | cons o rs ih =>
    intro done pre v W he hd hpre hS
    have HIH := Lib.hid ih
    have HS := Lib.hid hS; have HPRE := Lib.hid hpre; have HE := Lib.hid he
    have hoc := (Below.cell (p := ⟨OB, 0, none⟩) hS.gr hOB).trans hOC
    have hol := Nat.lt_of_lt_of_le hOB hS.gr.le
    have hlc := hS.lc
    have hsz := hS.sz
    have hlt : pre.length < os.length := by rw [he, List.length_append, hd]; simp
    have hoa : os[pre.length]? = some o := by rw [he, ← hd]; simp
    obtain ⟨b, off, rfl, hbl1, hcc⟩ := HOPT.out (by omega)
    obtain ⟨Ai, ci, hco1, hro, hol2⟩ := hcc _ _ hoa
    have hco := (Below.cell (p := ⟨b, off + pre.length, none⟩) hS.gr hbl1).trans hco1
    have hbl := Nat.lt_of_lt_of_le hbl1 hS.gr.le
    have HOB : Hid (∀ x ∈ o, x.2 ≤ 36) := Lib.hid (HOS.out o (by rw [he]; simp))
    have hat0 : (0 : Int) ≤ (pre.length : Int) := by omega
    have hat1 : (pre.length : Int) < (os.length : Int) := by omega
    obtain ⟨A', c', rfl, -, -⟩ := rows_of_own hS.own (frF pre) (fun i j hi hj => frCells_at _ i j hi hj)
    have hq : ((pre.length : Int) == (os.length : Int)) = false := by simp; omega
    have hq2 : (pre.length == os.length) = false := by simp; omega
    have HRO : Hid (RowsAt W1 2 Ai o.length (frF o)) := Lib.hid hro
    have HD := Lib.hid hd
    clear hd
    clear hS hpre he ih hcc hoa hro
    go_enter Tryd.func38, Tryd.ntmps38
    go_wp2_with fail
    go_loopw [19] (fun iv wr => ∃ (j : Nat) (ext : List (Nat × Nat)) (v : Value), j ≤ o.length ∧ iv = .int .i64 (j : Int) ∧ St W1 OB NB wr (pre ++ ext) v ∧ ∀ (i : Nat) (x : Nat × Nat), i < j → o[i]? = some x → tryF sp rs pre x = none) (fun iv _ => o.length - (intOf iv).toNat)
    case atStart => exact ⟨0, [], _, Nat.zero_le _, rfl, by rw [List.append_nil]; exact HS.out, fun i x h => by omega⟩
    case round =>
      obtain ⟨j, ext, v, hj, rfl, hS, hno⟩ := hrel
      have HST := Lib.hid hS; have HNO := Lib.hid hno
      have hlc := hS.lc; have hlf := hS.lf; have hsz2 := hS.sz
      have hown := hS.own
      have hro := HRO.out.keep hS.gr
      clear hno hS HS
      by_cases hlj : j < o.length
      · obtain ⟨x, hx⟩ : ∃ x, o[j]? = some x := ⟨_, List.getElem?_eq_getElem hlj⟩
        have HX := Lib.hid hx
        have hxm : x.2 ≤ 36 := HOB.out x (List.mem_of_getElem? hx)
        obtain ⟨b2, off2, rfl, hbl2, c0, c1⟩ := hro.two hlj
        have ef : frF o j 0 = (x.1 : Int) ∧ frF o j 1 = (x.2 : Int) := by simp [frF, List.getD, hx]
        rw [ef.1] at c0
        rw [ef.2] at c1
        have hlj' : decide ((j : Int) < (o.length : Int)) = true := decide_eq_true (by omega)
        obtain ⟨wp, rfl⟩ : ∃ wp : World, wp = wr := ⟨_, rfl⟩
        clear ef hx hro
        go_upto_region 7 with fail
        have hg7 : Gr wp (wp.alloc (.cells #[.int .i64 (x.1 : Int), .int .i64 (x.2 : Int)] 37)) := (Gr.refl _).alloc _
        have HS7 := Lib.hid (HST.out.keep hg7)
        have hlc7 := HS7.out.lc
        have hlf7 := HS7.out.lf
        have hsz7 := HS7.out.sz
        have ht0 : (wp.alloc (.cells #[.int .i64 (x.1 : Int), .int .i64 (x.2 : Int)] 37)).cell? ⟨wp.heap.size, 0, none⟩ = some (.int .i64 (x.1 : Int)) := by simp [go_sem]
        have ht1 : (wp.alloc (.cells #[.int .i64 (x.1 : Int), .int .i64 (x.2 : Int)] 37)).cell? ⟨wp.heap.size, 1, none⟩ = some (.int .i64 (x.2 : Int)) := by simp [go_sem]
        have htl : wp.heap.size < (wp.alloc (.cells #[.int .i64 (x.1 : Int), .int .i64 (x.2 : Int)] 37)).heap.size := by simp
        clear hg7 hlc hlf c0 c1 HST hsz2
        generalize hWO : wp.alloc (.cells #[.int .i64 (x.1 : Int), .int .i64 (x.2 : Int)] 37) = wo at *
        clear hWO
        generalize wp.heap.size = T at *
        have HOWN := Lib.hid hown
        have hcap : (v = .slice none 0 0 ∧ pre = []) ∨ ∃ g cap, v = .slice (some ⟨g, 0, none⟩) (pre ++ ext).length cap ∧ pre.length ≤ cap := by
          rcases hown.2 with ⟨e1, e2⟩ | ⟨g, cap, cur, e1, -, -, e2, -⟩
          · refine .inl ⟨e1, ?_⟩
            rw [List.length_append] at e2
            exact List.length_eq_zero_iff.1 (by omega)
          · refine .inr ⟨g, cap, e1, ?_⟩
            rw [List.length_append] at e2
            omega
        clear hown HOWN
        go_cut [] (fun wx => ∃ g cap : Nat, St W1 OB NB wx (pre ++ [x]) (.slice (some ⟨g, 0, none⟩) (pre.length + 1) cap))
        case first =>
          rcases hcap with ⟨rfl, rfl⟩ | ⟨g, cap, rfl, hcp⟩
          · have HOW : Hid (wo.ownsRow (W1.heap.size + 1 + 1) 37 2 (.slice none 0 0) ([] : List (Nat × Nat)).length (frCells [])) := Lib.hid (World.ownsRow_nil _ _ _ _)
            go_region_law (refine step_append_lies _ (by rfl) (.tmp 25) (.tmp 27) 25 (by rfl) (W1.heap.size + 1 + 1) 37 i0 (.agg #[.int .i64 0, .int .i64 0]) 2 16 Tryd.underlying25 HINF.out.1 HINF.out.2.1 HINF.out.2.2.1 HINF.out.2.2.2 (by rfl) (by decide) (.slice none 0 0) 0 [] (by rfl) (HOW.out.alloc _) ⟨wo.heap.size, 0, none⟩ 1 1 [.int .i64 (x.1 : Int), .int .i64 (x.2 : Int)] (by rfl) (by rfl) (cell_two_new _ _ _ _) (by intro u hu; simp at hu; rcases hu with rfl | rfl <;> rfl) (by decide) (by unfold maxLen; omega) (by omega) (by simp; omega) _ rfl ?_; intro g' cap' w3 hown hgrow hat hlt3; obtain ⟨hlb, hlbf⟩ := HS7.out.lb (by repeat (first | with_reducible exact Gr.refl _ | with_reducible refine Gr.alloc ?_ _ | with_reducible refine Gr.drew ?_)) rfl hgrow)
            all_goals
              have HN := Lib.hid (HS7.out.push (l' := []) (p := x) (by repeat (first | with_reducible exact Gr.refl _ | with_reducible refine Gr.alloc ?_ _ | with_reducible refine Gr.drew ?_)) rfl hown hgrow)
              clear hown hgrow hat hlt3 hlb hlbf
              go_wp2_with fail
              go_meet
              exact ⟨_, _, HN.out⟩
          · skip
            have HOW : Hid (wo.ownsRow (W1.heap.size + 1 + 1) 37 2 (.slice (some ⟨g, 0, none⟩) pre.length cap) pre.length (frCells pre)) := Lib.hid (own_cut HS7.out.own)
            have hcp0 : (pre.length : Int) ≤ (cap : Int) := by omega
            have hpl : pre.length ≤ 12 := by omega
            go_region_law (refine step_append_lies _ (by rfl) (.tmp 25) (.tmp 27) 25 (by rfl) (W1.heap.size + 1 + 1) 37 i0 (.agg #[.int .i64 0, .int .i64 0]) 2 16 Tryd.underlying25 HINF.out.1 HINF.out.2.1 HINF.out.2.2.1 HINF.out.2.2.2 (by rfl) (by decide) (.slice (some ⟨g, 0, none⟩) pre.length cap) pre.length (frCells pre) (by rfl) (HOW.out.alloc _) ⟨wo.heap.size, 0, none⟩ 1 1 [.int .i64 (x.1 : Int), .int .i64 (x.2 : Int)] (by rfl) (by rfl) (cell_two_new _ _ _ _) (by intro u hu; simp at hu; rcases hu with rfl | rfl <;> rfl) (by decide) (by unfold maxLen; omega) (by omega) (by simp; omega) _ rfl ?_; intro g' cap' w3 hown hgrow hat hlt3; obtain ⟨hlb, hlbf⟩ := HS7.out.lb (by repeat (first | with_reducible exact Gr.refl _ | with_reducible refine Gr.alloc ?_ _ | with_reducible refine Gr.drew ?_)) rfl hgrow)
            all_goals
              have HN := Lib.hid (HS7.out.push (p := x) (by repeat (first | with_reducible exact Gr.refl _ | with_reducible refine Gr.alloc ?_ _ | with_reducible refine Gr.drew ?_)) rfl hown hgrow)
              clear hown hgrow hat hlt3 hlb hlbf
              go_wp2_with fail
              go_meet
              exact ⟨_, _, HN.out⟩
        case rest =>
          obtain ⟨g, cap, hS⟩ := hcut
          have HSN := Lib.hid hS
          have hlc8 := hS.lc
          have hsz8 := hS.sz
          have hxc8 := hS.xc
          have hlen1 : (pre ++ [x]).length = pre.length + 1 := by simp
          obtain ⟨A2, c2, e2, hrows, -⟩ := rows_of_own hS.own (frF (pre ++ [x])) (fun i j hi hj => frCells_at _ i j hi hj)
          have hcap2 := own_cap hS.own
          rw [hlen1] at hrows hcap2 e2
          cases e2
          have HXR : Hid (∀ y ∈ pre ++ [x], y.2 ≤ 36) := Lib.hid (fun y hy => by
            rcases List.mem_append.1 hy with h | h
            · exact HPRE.out y h
            · rw [List.mem_singleton.1 h]; exact hxm)
          have hH := fun W (k : Gr wc W) => held_any sp (some ⟨g, 0, none⟩) (pre.length + 1) cap (frF (pre ++ [x])) W (hrows.keep k) (by omega) hcap2 (by rw [← hlen1]; exact frF_range HXR.out)
          rw [show heldB sp (frF (pre ++ [x])) (pre.length + 1) = heldL sp (pre ++ [x]) by unfold heldL; rw [hlen1]] at hH
          obtain ⟨hl0, b0, b1, n2, n3⟩ := HNB.out.keep hS.gr
          clear hS hrows hcap2 hcap hlc7 hlf7 hsz7 ht0 ht1 htl HS7 hlen1
          obtain ⟨wq, rfl⟩ : ∃ wq : World, wq = wc := ⟨_, rfl⟩
          rcases bool_tf (heldL sp (pre ++ [x])) with hh | hh
          · rw [hh] at hH
            have HH := Lib.hid hH
            have HHL := Lib.hid hh
            clear hH hh
            go_wp2_with fail
            (go_at_call 39; with_reducible refine (HH.out _ (Gr.refl _)).mono ?_; rintro e w' ⟨rfl, hb⟩; have hz := hb.le; obtain ⟨hc, hf⟩ := hb.cells; have hn := hb.cellsN; (try simp only [World.size_alloc] at hc hf hz hn); (try simp only [World.size_setCell] at hc hf hz hn); (try simp only [World.size_drew] at hc hf hz hn))
            have HS9 := Lib.hid (HSN.out.keep (show Gr wq w' from (by repeat (first | with_reducible exact Gr.refl _ | with_reducible refine Gr.alloc ?_ _ | with_reducible refine Gr.drew ?_ | with_reducible refine Gr.trans ?_ (by assumption) | with_reducible refine Gr.setCell ?_ (by (try simp); (try omega)) _))))
            have hxc9 := HS9.out.xc
            clear hb hz hc hf hn HSN hlc8 hsz8 hxc8 hl0 b0 b1 n2 n3
            obtain ⟨wt, rfl⟩ : ∃ wt : World, wt = w' := ⟨_, rfl⟩
            have hIHC := HIH.out (done ++ [o]) (pre ++ [x]) _ wt (by rw [HE.out]; simp) (by simp [HD.out]) HXR.out HS9.out
            have HIHC := Lib.hid hIHC
            clear hIHC
            go_wp2_with fail
            go_at_call 38
            refine HIHC.out.mono ?_
            rintro e w5 ⟨rfl, ext2, v2, hS5, hr5⟩
            have HS5 := Lib.hid hS5; have HR5 := Lib.hid hr5
            clear hS5 hr5 hxc9
            cases hs : srch sp rs (pre ++ [x]) with
            | some r =>
              have HF : Hid (srch sp (o :: rs) pre = some r) := Lib.hid (by
                rw [srch_cons]
                exact findSome_hit HX.out (by unfold tryF; rw [HHL.out]; simpa using hs) HNO.out)
              have HSR := Lib.hid hs
              clear hs
              simp only [Option.isSome_some]
              go_wp2_with fail
              go_ret
              exact ⟨ret_bool (by rw [HF.out]; rfl), [x] ++ ext2, v2, by rw [← List.append_assoc]; exact HS5.out, fun r' h => by rw [HF.out] at h; cases h; rw [← List.append_assoc]; exact HR5.out _ HSR.out⟩
            | none =>
              have HN : Hid (∀ (i : Nat) (y : Nat × Nat), i < j + 1 → o[i]? = some y → tryF sp rs pre y = none) := Lib.hid (fun i y hi hy => by
                by_cases e : i = j
                · subst e
                  rw [HX.out] at hy; cases hy
                  unfold tryF; rw [HHL.out]; simpa using hs
                · exact HNO.out i y (by omega) hy)
              clear hs
              simp only [Option.isSome_none]
              go_wp2_with fail
              go_roundw
              case rel => exact ⟨j + 1, [x] ++ ext2, v2, by omega, by go_num, by rw [← List.append_assoc]; exact HS5.out, HN.out⟩
              case measure => simp [intOf]; omega
          · rw [hh] at hH
            have HH := Lib.hid hH
            have HN : Hid (∀ (i : Nat) (y : Nat × Nat), i < j + 1 → o[i]? = some y → tryF sp rs pre y = none) := Lib.hid (fun i y hi hy => by
              by_cases e : i = j
              · subst e
                rw [HX.out] at hy; cases hy
                unfold tryF; rw [hh]; rfl
              · exact HNO.out i y (by omega) hy)
            clear hH hh
            go_wp2_with fail
            (go_at_call 39; with_reducible refine (HH.out _ (Gr.refl _)).mono ?_; rintro e w' ⟨rfl, hb⟩; have hz := hb.le; obtain ⟨hc, hf⟩ := hb.cells; have hn := hb.cellsN; (try simp only [World.size_alloc] at hc hf hz hn); (try simp only [World.size_setCell] at hc hf hz hn); (try simp only [World.size_drew] at hc hf hz hn))
            have HS9 := Lib.hid (HSN.out.keep (show Gr wq w' from (by repeat (first | with_reducible exact Gr.refl _ | with_reducible refine Gr.alloc ?_ _ | with_reducible refine Gr.drew ?_ | with_reducible refine Gr.trans ?_ (by assumption) | with_reducible refine Gr.setCell ?_ (by (try simp); (try omega)) _))))
            clear hb hz hc hf hn HSN hlc8 hsz8 hxc8 hl0 b0 b1 n2 n3
            obtain ⟨wt, rfl⟩ : ∃ wt : World, wt = w' := ⟨_, rfl⟩
            go_wp2_with fail
            go_roundw
            case rel => exact ⟨j + 1, [x], _, by omega, by go_num, HS9.out, HN.out⟩
            case measure => simp [intOf]; omega
      · obtain rfl : j = o.length := by omega
        have HN : Hid (srch sp (o :: rs) pre = none) := Lib.hid (by
          rw [srch_cons, List.findSome?_eq_none_iff]
          intro x hx
          obtain ⟨i, hi⟩ := List.getElem?_of_mem hx
          exact HNO.out i x (List.getElem?_eq_some_iff.1 hi).1 hi)
        obtain ⟨wp, rfl⟩ : ∃ wp : World, wp = wr := ⟨_, rfl⟩
        go_wp2_with fail
        go_ret
        exact ⟨ret_bool (by rw [HN.out]; rfl), ext, v, HST.out, fun r h => by rw [HN.out] at h; cases h⟩
end Go.Proofs.YtohalcookjbaaaaDoor
