/-
  The law head of schismalaw13: the examples.
-/
import Derived.Test.YtbaopniofhbjdaaDoorBrassAll
import Derived.Test.YtbaopniofhbjdaaDoorEq6
namespace Go.Proofs.YtbaopniofhbjdaaDoor
open Go.RowKit

/-- A list that has just been laid, as rows. -/
theorem rows_new (w : World) (cs : Array Value) (t : TypeId) (sz n : Nat) (g : Nat → Nat → Int) (h : ∀ i j, i < n → j < sz → cs[i * sz + j]? = some (.int .i64 (g i j))) : RowsAt (w.alloc (.cells cs t)) sz (some ⟨w.heap.size, 0, none⟩) n g := by
  intro _
  refine ⟨w.heap.size, 0, rfl, by simp, fun i hi j hj => ?_⟩
  have := h i j hi hj
  have hh := World.alloc_heap_new w (.cells cs t)
  unfold World.cell?
  rw [hh, Nat.zero_add]
  simpa using this
theorem rows_newb (w : World) (cs : Array Value) (t : TypeId) (sz n : Nat) (g : Nat → Nat → Int) (b : Nat) (hb : b = w.heap.size) (h : ∀ i j, i < n → j < sz → cs[i * sz + j]? = some (.int .i64 (g i j))) : RowsAt (w.alloc (.cells cs t)) sz (some ⟨b, 0, none⟩) n g := by
  subst hb; exact rows_new w cs t sz n g h
/-- The valves of the example. -/
def sampleF : Nat → Nat → Int
  | 0, 0 => -36
  | 0, 1 => 24
  | 1, 0 => 48
  | 1, 1 => -12
  | 1, 2 => -12
  | 2, 0 => 12
  | 2, 1 => 12
  | 2, 2 => -12
  | _, _ => 0
set_option maxRecDepth 100000 in
set_option maxHeartbeats 4000000 in
theorem sample_any (w : World) : Calls Tryd.prog 53 #[] w fun e w' => ∃ B, e = .returned (.agg #[.int .i64 (-24), .int .i64 0, .int .i64 0, .int .i64 0, .int .i64 0, .int .i64 0, .slice (some ⟨B, 0, none⟩) 3 3, .int .i64 8, .int .i64 20000]) ∧ RowsAt w' 6 (some ⟨B, 0, none⟩) 3 sampleF ∧ Gr w w' := by
  go_enter Tryd.func53, Tryd.ntmps53
  go_wp2_with fail
  refine bodyPost_ret (v := .agg #[.int .i64 (-24), .int .i64 0, .int .i64 0, .int .i64 0, .int .i64 0, .int .i64 0, .slice (some ⟨w.heap.size + 1, 0, none⟩) 3 3, .int .i64 8, .int .i64 20000]) (by simp [results, Tryd.results53, go_sem, *]) rfl ⟨_, rfl, ?_, ((Gr.refl w).alloc _).alloc _⟩
  have h := rows_new (w.alloc (.cells #[.int .i64 (-24), .int .i64 0, .int .i64 0, .int .i64 0, .int .i64 0, .int .i64 0, .slice (some ⟨w.heap.size + 1, 0, none⟩) 3 3, .int .i64 8, .int .i64 20000] 26)) #[.int .i64 (-36), .int .i64 24, .int .i64 0, .int .i64 0, .int .i64 0, .int .i64 0, .int .i64 48, .int .i64 (-12), .int .i64 (-12), .int .i64 0, .int .i64 0, .int .i64 0, .int .i64 12, .int .i64 12, .int .i64 (-12), .int .i64 0, .int .i64 0, .int .i64 0] 23 6 3 sampleF (by
    intro i j hi hj
    rcases (show i = 0 ∨ i = 1 ∨ i = 2 by omega) with rfl | rfl | rfl <;> rcases (show j = 0 ∨ j = 1 ∨ j = 2 ∨ j = 3 ∨ j = 4 ∨ j = 5 by omega) with rfl | rfl | rfl | rfl | rfl | rfl <;> rfl)
  rw [World.size_alloc] at h
  exact h

/-- A literal list of pairs, as rows. -/
def litF (l : List (Int × Int)) : Nat → Nat → Int := pairF (fun p : Int × Int => p.1) (fun p : Int × Int => p.2) l
abbrev sBase : V6 := ⟨-24, 0, 0, 0, 0, 0⟩
theorem s_find1 : (findAll sBase sampleF 3 8 20000 ⟨1, -2, 1, 0, 0, 0⟩).map (fun p => p.1) = [(4, 1), (5, 5)] := by decide +kernel
theorem s_find2 : (findAll sBase sampleF 3 8 20000 ⟨0, 0, -1, 1, 0, 0⟩).map (fun p => p.1) = [(5, 2), (7, 7)] := by decide +kernel
theorem s_good1 : goodFV sBase sampleF 3 8 20000 ⟨1, -2, 1, 0, 0, 0⟩ = true := by decide +kernel
theorem s_good2 : goodFV sBase sampleF 3 8 20000 ⟨0, 0, -1, 1, 0, 0⟩ = true := by decide +kernel
theorem s_good3 : goodFV sBase sampleF 3 8 20000 ⟨-3, 2, 0, 0, 0, 0⟩ = true := by decide +kernel
theorem s_find3 : findAll sBase sampleF 3 8 20000 ⟨-3, 2, 0, 0, 0, 0⟩ = [] := by decide +kernel
theorem s_ok : hornOk sBase 3 sampleF 8 20000 = true := by decide +kernel

/-- Rows of a list of blows out of the pairs of its numbers. -/
theorem blowF_of {m Q : Nat} {L : List (BlowIx m Q)} {l : List (Nat × Nat)} (h : L.map (fun p => p.1) = l) : L.length = l.length ∧ ∀ i p, l[i]? = some p → blowF L i 0 = (p.1 : Int) + 1 ∧ blowF L i 1 = (p.2 : Int) := by
  subst h
  refine ⟨by simp, fun i p hp => ?_⟩
  rw [List.getElem?_map] at hp
  obtain ⟨q, hq, rfl⟩ := Option.map_eq_some_iff.1 hp
  exact ⟨pairF_0 hq, pairF_1 hq⟩
abbrev sHorn (B : Nat) : Value := .agg #[.int .i64 (-24), .int .i64 0, .int .i64 0, .int .i64 0, .int .i64 0, .int .i64 0, .slice (some ⟨B, 0, none⟩) 3 3, .int .i64 8, .int .i64 20000]
theorem s_sound1 (B : Nat) : ∀ w, Tabs w → RowsAt w 6 (some ⟨B, 0, none⟩) 3 sampleF → Calls Tryd.prog 15 #[.agg #[.int .i64 (-24), .int .i64 0, .int .i64 0, .int .i64 0, .int .i64 0, .int .i64 0, .slice (some ⟨B, 0, none⟩) 3 3, .int .i64 8, .int .i64 20000], .agg #[.int .i64 6, .int .i64 2]] w
    fun e w' => e = .returned (.tuple #[.agg #[.int .i64 (-60), .int .i64 24, .int .i64 12, .int .i64 0, .int .i64 0, .int .i64 0], .int .i64 0]) ∧ Gr w w' := by
  obtain ⟨z0, z1, z2, z3, z4, z5, ez, h, hs⟩ := Sound_all (-24) 0 0 0 0 0 8 20000 6 2 (some ⟨B, 0, none⟩) 3 3 sampleF (by omega)
  rcases hs with ⟨h1, -⟩ | ⟨-, h1, -⟩ | ⟨-, -, -, h1, rfl⟩ | ⟨-, -, h1, -⟩
  · rw [s_ok] at h1; cases h1
  · exact (h1 (by decide +kernel)).elim
  · have e : soundV sBase sampleF 3 (6 : Int).toNat (2 : Int).toNat = ⟨-60, 24, 12, 0, 0, 0⟩ := by kernel_rfl
    rw [e] at h1
    injection h1 with h0 h1 h2 h3 h4 h5
    subst h0 h1 h2 h3 h4 h5
    exact h
  · rw [show allIn (soundV sBase sampleF 3 (6 : Int).toNat (2 : Int).toNat) 576 6 = true by decide +kernel] at h1; cases h1
theorem s_sound2 (B : Nat) : ∀ w, Tabs w → RowsAt w 6 (some ⟨B, 0, none⟩) 3 sampleF → Calls Tryd.prog 15 #[.agg #[.int .i64 (-24), .int .i64 0, .int .i64 0, .int .i64 0, .int .i64 0, .int .i64 0, .slice (some ⟨B, 0, none⟩) 3 3, .int .i64 8, .int .i64 20000], .agg #[.int .i64 9, .int .i64 0]] w
    fun e w' => e = .returned (.tuple #[.agg #[.int .i64 0, .int .i64 0, .int .i64 0, .int .i64 0, .int .i64 0, .int .i64 0], .int .i64 1]) ∧ Gr w w' := by
  obtain ⟨z0, z1, z2, z3, z4, z5, ez, h, hs⟩ := Sound_all (-24) 0 0 0 0 0 8 20000 9 0 (some ⟨B, 0, none⟩) 3 3 sampleF (by omega)
  rcases hs with ⟨h1, -⟩ | ⟨-, -, h1, rfl⟩ | ⟨-, h1, -⟩ | ⟨-, h1, -⟩
  · rw [s_ok] at h1; cases h1
  · injection h1 with h0 h1 h2 h3 h4 h5
    subst h0 h1 h2 h3 h4 h5
    exact h
  · exact absurd h1 (by decide +kernel)
  · exact absurd h1 (by decide +kernel)
theorem s_best (B : Nat) (v0 v1 v2 v3 v4 v5 X S E : Int) (hg : goodFV sBase sampleF 3 8 20000 ⟨v0, v1, v2, v3, v4, v5⟩ = true) (hb : ∀ X' S' E', BestRes sBase sampleF 3 ⟨v0, v1, v2, v3, v4, v5⟩ (findAll sBase sampleF 3 8 20000 ⟨v0, v1, v2, v3, v4, v5⟩) X' S' E' → X' = X ∧ S' = S ∧ E' = E) :
    ∀ w, Tabs w → RowsAt w 6 (some ⟨B, 0, none⟩) 3 sampleF → Calls Tryd.prog 20 #[.agg #[.int .i64 (-24), .int .i64 0, .int .i64 0, .int .i64 0, .int .i64 0, .int .i64 0, .slice (some ⟨B, 0, none⟩) 3 3, .int .i64 8, .int .i64 20000], .agg #[.int .i64 v0, .int .i64 v1, .int .i64 v2, .int .i64 v3, .int .i64 v4, .int .i64 v5]] w
    fun e w' => e = .returned (.tuple #[.agg #[.int .i64 X, .int .i64 S], .int .i64 E]) ∧ Gr w w' := by
  obtain ⟨X', S', E', h, hs⟩ := Best_all (-24) 0 0 0 0 0 8 20000 v0 v1 v2 v3 v4 v5 (some ⟨B, 0, none⟩) 3 3 sampleF (by omega)
  rcases hs with ⟨h1, -⟩ | ⟨-, hr⟩
  · rw [hg] at h1; cases h1
  · obtain ⟨rfl, rfl, rfl⟩ := hb _ _ _ hr
    exact h
theorem s_res (v : V6) (hne : findAll sBase sampleF 3 8 20000 v ≠ []) (hall : ∀ p ∈ findAll sBase sampleF 3 8 20000 v, okB sBase sampleF 3 v p = true) {X S : Int} (hX : accX (bestL sBase sampleF 3 v (findAll sBase sampleF 3 8 20000 v)) = X) (hS : accS (bestL sBase sampleF 3 v (findAll sBase sampleF 3 8 20000 v)) = S) :
    ∀ X' S' E', BestRes sBase sampleF 3 v (findAll sBase sampleF 3 8 20000 v) X' S' E' → X' = X ∧ S' = S ∧ E' = 0 := by
  intro X' S' E' h
  obtain ⟨rfl, rfl, rfl⟩ := h.good hne hall
  exact ⟨hX, hS, rfl⟩
theorem s_find (B : Nat) (v0 v1 v2 v3 v4 v5 : Int) (hg : goodFV sBase sampleF 3 8 20000 ⟨v0, v1, v2, v3, v4, v5⟩ = true) (l : List (Nat × Nat)) (g : Nat → Nat → Int) (hl : (findAll sBase sampleF 3 8 20000 ⟨v0, v1, v2, v3, v4, v5⟩).map (fun p => p.1) = l) (hgl : ∀ i p, l[i]? = some p → g i 0 = (p.1 : Int) + 1 ∧ g i 1 = (p.2 : Int)) :
    ∀ w, Tabs w → RowsAt w 6 (some ⟨B, 0, none⟩) 3 sampleF → Calls Tryd.prog 17 #[.agg #[.int .i64 (-24), .int .i64 0, .int .i64 0, .int .i64 0, .int .i64 0, .int .i64 0, .slice (some ⟨B, 0, none⟩) 3 3, .int .i64 8, .int .i64 20000], .agg #[.int .i64 v0, .int .i64 v1, .int .i64 v2, .int .i64 v3, .int .i64 v4, .int .i64 v5]] w
    fun e w' => ∃ A c, e = .returned (.tuple #[.slice A l.length c, .int .i64 0]) ∧ RowsAt w' 2 A l.length g ∧ Gr w w' := by
  obtain ⟨E, h, hs⟩ := Find_all (-24) 0 0 0 0 0 8 20000 v0 v1 v2 v3 v4 v5 (some ⟨B, 0, none⟩) 3 3 sampleF (by omega)
  rcases hs with ⟨-, rfl⟩ | ⟨h1, -⟩
  · intro w hT hV
    refine (h w hT hV).mono ?_
    rintro e w' ⟨A, c, rfl, hr, -, hg⟩
    obtain ⟨e1, e2⟩ := blowF_of hl
    rw [e1] at hr ⊢
    refine ⟨A, c, rfl, fun hn => ?_, hg⟩
    obtain ⟨b, off, h1, h2, h3⟩ := hr hn
    refine ⟨b, off, h1, h2, fun i hi j hj => ?_⟩
    rw [h3 i hi j hj]
    have q1 := e2 i _ (List.getElem?_eq_getElem hi)
    have q2 := hgl i _ (List.getElem?_eq_getElem hi)
    rcases (show j = 0 ∨ j = 1 by omega) with rfl | rfl
    · rw [q1.1, q2.1]
    · rw [q1.2, q2.2]
  · rw [hg] at h1; cases h1
theorem lit_at : ∀ i p, ([(4, 1), (5, 5)] : List (Nat × Nat))[i]? = some p → litF [(5, 1), (6, 5)] i 0 = (p.1 : Int) + 1 ∧ litF [(5, 1), (6, 5)] i 1 = (p.2 : Int) := by
  rintro (_ | _ | i) p hp
  · simp at hp; subst hp; decide
  · simp at hp; subst hp; decide
  · simp at hp
theorem lit_at2 : ∀ i p, ([(5, 2), (7, 7)] : List (Nat × Nat))[i]? = some p → litF [(6, 2), (8, 7)] i 0 = (p.1 : Int) + 1 ∧ litF [(6, 2), (8, 7)] i 1 = (p.2 : Int) := by
  rintro (_ | _ | i) p hp
  · simp at hp; subst hp; decide
  · simp at hp; subst hp; decide
  · simp at hp
theorem lit_c1 : ∀ i j, i < 2 → j < 2 → (#[.int .i64 5, .int .i64 1, .int .i64 6, .int .i64 5] : Array Value)[i * 2 + j]? = some (.int .i64 (litF [(5, 1), (6, 5)] i j)) := by
  intro i j hi hj
  rcases (show i = 0 ∨ i = 1 by omega) with rfl | rfl <;> rcases (show j = 0 ∨ j = 1 by omega) with rfl | rfl <;> rfl
theorem lit_c2 : ∀ i j, i < 2 → j < 2 → (#[.int .i64 6, .int .i64 2, .int .i64 8, .int .i64 7] : Array Value)[i * 2 + j]? = some (.int .i64 (litF [(6, 2), (8, 7)] i j)) := by
  intro i j hi hj
  rcases (show i = 0 ∨ i = 1 by omega) with rfl | rfl <;> rcases (show j = 0 ∨ j = 1 by omega) with rfl | rfl <;> rfl
theorem s_same (A A' : Option Addr) (c c' : Nat) (l : List (Int × Int)) (w : World) (hR : RowsAt w 2 A 2 (litF l)) (hR' : RowsAt w 2 A' 2 (litF l)) :
    Calls Tryd.prog 19 #[.slice A 2 c, .slice A' 2 c'] w fun e w' => e = .returned (.bool true) ∧ Gr w w' := by
  have h := same_any A 2 c (litF l) A' 2 c' (litF l) w hR hR' (by omega) (by omega)
  rwa [show ((2 : Nat) == 2 && sameR (litF l) (litF l) 2) = true by simp [sameR]] at h
theorem s_valid (B : Nat) : ∀ w, Tabs w → RowsAt w 6 (some ⟨B, 0, none⟩) 3 sampleF → Calls Tryd.prog 13 #[.agg #[.int .i64 (-24), .int .i64 0, .int .i64 0, .int .i64 0, .int .i64 0, .int .i64 0, .slice (some ⟨B, 0, none⟩) 3 3, .int .i64 8, .int .i64 20000]] w fun e w' => e = .returned (.bool true) ∧ Gr w w' := by
  intro w hT hV
  have h := hornValid_any (-24) 0 0 0 0 0 8 20000 (some ⟨B, 0, none⟩) 3 3 sampleF w hT.primes hV (by omega)
  rwa [s_ok] at h

set_option maxRecDepth 100000 in
set_option maxHeartbeats 16000000 in
theorem bhead_any (w : World) (hT : Tabs w) : Calls Tryd.prog 12 #[] w fun e w' => e = .returned (.bool true) ∧ Gr w w' := by
  have HT := Lib.hid hT
  clear hT
  go_enter Tryd.func12, Tryd.ntmps12
  go_wp2_with fail
  (go_at_call 53; refine (sample_any _).mono ?_; rintro e w1 ⟨B, rfl, hV, hg⟩)
  have HV := Lib.hid hV
  have HT1 := Lib.hid (HT.out.keep hg)
  have HG := Lib.hid hg
  have H1 := Lib.hid (s_sound1 B)
  have H2 := Lib.hid (s_sound2 B)
  have H3 := Lib.hid (s_find B 1 (-2) 1 0 0 0 s_good1 _ (litF [(5, 1), (6, 5)]) s_find1 lit_at)
  have H4 := Lib.hid (s_find B 0 0 (-1) 1 0 0 s_good2 _ (litF [(6, 2), (8, 7)]) s_find2 lit_at2)
  have H5 := Lib.hid (s_best B 0 0 (-1) 1 0 0 6 2 0 s_good2 (s_res _ (by decide +kernel) (by decide +kernel) (by decide +kernel) (by decide +kernel)))
  have H6 := Lib.hid (s_best B (-3) 2 0 0 0 0 0 0 4 s_good3 (fun X' S' E' h => by rw [s_find3] at h; exact h.empty rfl))
  have H7 := Lib.hid (s_best B 0 0 0 0 0 0 4 0 0 (by decide +kernel) (s_res _ (by decide +kernel) (by decide +kernel) (by decide +kernel) (by decide +kernel)))
  have H8 := Lib.hid (s_valid B)
  have HQ1 := eq6P_yes (-60) 24 12 0 0 0
  clear hV hg
  go_upto_region 9 with (first
    | (go_at_call 15; with_reducible refine (H1.out _ (HT1.out.keep (by repeat (first | with_reducible exact Gr.refl _ | with_reducible refine Gr.alloc ?_ _ | with_reducible refine Gr.drew ?_ | with_reducible refine Gr.trans ?_ (by assumption) | with_reducible refine Gr.setCell ?_ (by (try simp); (try omega)) _))) (HV.out.keep (by repeat (first | with_reducible exact Gr.refl _ | with_reducible refine Gr.alloc ?_ _ | with_reducible refine Gr.drew ?_ | with_reducible refine Gr.trans ?_ (by assumption) | with_reducible refine Gr.setCell ?_ (by (try simp); (try omega)) _)))).mono ?_; rintro e wa ⟨rfl, hbwa⟩; have hzwa := hbwa.le; obtain ⟨hcwa, hfwa⟩ := hbwa.cells; (try simp only [World.size_alloc] at hcwa hfwa hzwa))
    | (go_at_call 15; with_reducible refine (H2.out _ (HT1.out.keep (by repeat (first | with_reducible exact Gr.refl _ | with_reducible refine Gr.alloc ?_ _ | with_reducible refine Gr.drew ?_ | with_reducible refine Gr.trans ?_ (by assumption) | with_reducible refine Gr.setCell ?_ (by (try simp); (try omega)) _))) (HV.out.keep (by repeat (first | with_reducible exact Gr.refl _ | with_reducible refine Gr.alloc ?_ _ | with_reducible refine Gr.drew ?_ | with_reducible refine Gr.trans ?_ (by assumption) | with_reducible refine Gr.setCell ?_ (by (try simp); (try omega)) _)))).mono ?_; rintro e wf ⟨rfl, hbwf⟩; have hzwf := hbwf.le; obtain ⟨hcwf, hfwf⟩ := hbwf.cells; (try simp only [World.size_alloc] at hcwf hfwf hzwf))
    | (go_at_call 17; with_reducible refine (H3.out _ (HT1.out.keep (by repeat (first | with_reducible exact Gr.refl _ | with_reducible refine Gr.alloc ?_ _ | with_reducible refine Gr.drew ?_ | with_reducible refine Gr.trans ?_ (by assumption) | with_reducible refine Gr.setCell ?_ (by (try simp); (try omega)) _))) (HV.out.keep (by repeat (first | with_reducible exact Gr.refl _ | with_reducible refine Gr.alloc ?_ _ | with_reducible refine Gr.drew ?_ | with_reducible refine Gr.trans ?_ (by assumption) | with_reducible refine Gr.setCell ?_ (by (try simp); (try omega)) _)))).mono ?_; rintro e wb ⟨A1, cA1, rfl, hr, hbwb⟩; have HR1 := Lib.hid hr; clear hr; have hzwb := hbwb.le; obtain ⟨hcwb, hfwb⟩ := hbwb.cells; (try simp only [World.size_alloc] at hcwb hfwb hzwb))
    | (go_at_call 17; with_reducible refine (H4.out _ (HT1.out.keep (by repeat (first | with_reducible exact Gr.refl _ | with_reducible refine Gr.alloc ?_ _ | with_reducible refine Gr.drew ?_ | with_reducible refine Gr.trans ?_ (by assumption) | with_reducible refine Gr.setCell ?_ (by (try simp); (try omega)) _))) (HV.out.keep (by repeat (first | with_reducible exact Gr.refl _ | with_reducible refine Gr.alloc ?_ _ | with_reducible refine Gr.drew ?_ | with_reducible refine Gr.trans ?_ (by assumption) | with_reducible refine Gr.setCell ?_ (by (try simp); (try omega)) _)))).mono ?_; rintro e wc ⟨A2, cA2, rfl, hr, hbwc⟩; have HR2 := Lib.hid hr; clear hr; have hzwc := hbwc.le; obtain ⟨hcwc, hfwc⟩ := hbwc.cells; (try simp only [World.size_alloc] at hcwc hfwc hzwc))
    | (go_at_call 20; with_reducible refine (H5.out _ (HT1.out.keep (by repeat (first | with_reducible exact Gr.refl _ | with_reducible refine Gr.alloc ?_ _ | with_reducible refine Gr.drew ?_ | with_reducible refine Gr.trans ?_ (by assumption) | with_reducible refine Gr.setCell ?_ (by (try simp); (try omega)) _))) (HV.out.keep (by repeat (first | with_reducible exact Gr.refl _ | with_reducible refine Gr.alloc ?_ _ | with_reducible refine Gr.drew ?_ | with_reducible refine Gr.trans ?_ (by assumption) | with_reducible refine Gr.setCell ?_ (by (try simp); (try omega)) _)))).mono ?_; rintro e wd ⟨rfl, hbwd⟩; have hzwd := hbwd.le; obtain ⟨hcwd, hfwd⟩ := hbwd.cells; (try simp only [World.size_alloc] at hcwd hfwd hzwd))
    | (go_at_call 20; with_reducible refine (H6.out _ (HT1.out.keep (by repeat (first | with_reducible exact Gr.refl _ | with_reducible refine Gr.alloc ?_ _ | with_reducible refine Gr.drew ?_ | with_reducible refine Gr.trans ?_ (by assumption) | with_reducible refine Gr.setCell ?_ (by (try simp); (try omega)) _))) (HV.out.keep (by repeat (first | with_reducible exact Gr.refl _ | with_reducible refine Gr.alloc ?_ _ | with_reducible refine Gr.drew ?_ | with_reducible refine Gr.trans ?_ (by assumption) | with_reducible refine Gr.setCell ?_ (by (try simp); (try omega)) _)))).mono ?_; rintro e we ⟨rfl, hbwe⟩; have hzwe := hbwe.le; obtain ⟨hcwe, hfwe⟩ := hbwe.cells; (try simp only [World.size_alloc] at hcwe hfwe hzwe))
    | (go_at_call 20; with_reducible refine (H7.out _ (HT1.out.keep (by repeat (first | with_reducible exact Gr.refl _ | with_reducible refine Gr.alloc ?_ _ | with_reducible refine Gr.drew ?_ | with_reducible refine Gr.trans ?_ (by assumption) | with_reducible refine Gr.setCell ?_ (by (try simp); (try omega)) _))) (HV.out.keep (by repeat (first | with_reducible exact Gr.refl _ | with_reducible refine Gr.alloc ?_ _ | with_reducible refine Gr.drew ?_ | with_reducible refine Gr.trans ?_ (by assumption) | with_reducible refine Gr.setCell ?_ (by (try simp); (try omega)) _)))).mono ?_; rintro e wg ⟨rfl, hbwg⟩; have hzwg := hbwg.le; obtain ⟨hcwg, hfwg⟩ := hbwg.cells; (try simp only [World.size_alloc] at hcwg hfwg hzwg)))
  have k1 : HornAt (wg.alloc (.cells #[.int .i64 4, .int .i64 0] 28)) w1.heap.size (-24) 0 0 0 0 0 (.slice (some ⟨B, 0, none⟩) 3 3) 8 20000 := ⟨by simp [go_sem, *], by simp [go_sem, *], by simp [go_sem, *], by simp [go_sem, *], by simp [go_sem, *], by simp [go_sem, *], by simp [go_sem, *], by simp [go_sem, *], by simp [go_sem, *]⟩
  have k2 : SixV (wg.alloc (.cells #[.int .i64 4, .int .i64 0] 28)) wa.heap.size (.int .i64 (-60)) (.int .i64 24) (.int .i64 12) (.int .i64 0) (.int .i64 0) (.int .i64 0) := ⟨by simp [go_sem, *], by simp [go_sem, *], by simp [go_sem, *], by simp [go_sem, *], by simp [go_sem, *], by simp [go_sem, *]⟩
  have k3 : (wg.alloc (.cells #[.int .i64 4, .int .i64 0] 28)).cell? ⟨wd.heap.size, 0, none⟩ = some (.int .i64 6) := by simp [go_sem, *]
  have k4 : (wg.alloc (.cells #[.int .i64 4, .int .i64 0] 28)).cell? ⟨wd.heap.size, 1, none⟩ = some (.int .i64 2) := by simp [go_sem, *]
  have k5 : (wg.alloc (.cells #[.int .i64 4, .int .i64 0] 28)).cell? ⟨wg.heap.size, 0, none⟩ = some (.int .i64 4) := by simp [go_sem]
  have k6 : (wg.alloc (.cells #[.int .i64 4, .int .i64 0] 28)).cell? ⟨wg.heap.size, 1, none⟩ = some (.int .i64 0) := by simp [go_sem]
  have z1 : w1.heap.size + 1 ≤ (wg.alloc (.cells #[.int .i64 4, .int .i64 0] 28)).heap.size := by simp; omega
  have z2 : wa.heap.size + 1 ≤ (wg.alloc (.cells #[.int .i64 4, .int .i64 0] 28)).heap.size := by simp; omega
  have z3 : wd.heap.size + 1 ≤ (wg.alloc (.cells #[.int .i64 4, .int .i64 0] 28)).heap.size := by simp; omega
  have z4 : wg.heap.size + 1 ≤ (wg.alloc (.cells #[.int .i64 4, .int .i64 0] 28)).heap.size := by simp
  have g1 : Gr w (wg.alloc (.cells #[.int .i64 4, .int .i64 0] 28)) := (HG.out.trans (show Gr w1 (wg.alloc (.cells #[.int .i64 4, .int .i64 0] 28)) from (by repeat (first | with_reducible exact Gr.refl _ | with_reducible refine Gr.alloc ?_ _ | with_reducible refine Gr.drew ?_ | with_reducible refine Gr.trans ?_ (by assumption) | with_reducible refine Gr.setCell ?_ (by (try simp); (try omega)) _))))
  have g2 : Gr wb (wg.alloc (.cells #[.int .i64 4, .int .i64 0] 28)) := (by repeat (first | with_reducible exact Gr.refl _ | with_reducible refine Gr.alloc ?_ _ | with_reducible refine Gr.drew ?_ | with_reducible refine Gr.trans ?_ (by assumption) | with_reducible refine Gr.setCell ?_ (by (try simp); (try omega)) _))
  have g3 : Gr wc (wg.alloc (.cells #[.int .i64 4, .int .i64 0] 28)) := (by repeat (first | with_reducible exact Gr.refl _ | with_reducible refine Gr.alloc ?_ _ | with_reducible refine Gr.drew ?_ | with_reducible refine Gr.trans ?_ (by assumption) | with_reducible refine Gr.setCell ?_ (by (try simp); (try omega)) _))
  have HR1' := Lib.hid (HR1.out.keep g2)
  have HR2' := Lib.hid (HR2.out.keep g3)
  have HTW := Lib.hid (HT.out.keep g1)
  have HVW := Lib.hid (HV.out.keep (show Gr w1 (wg.alloc (.cells #[.int .i64 4, .int .i64 0] 28)) from (by repeat (first | with_reducible exact Gr.refl _ | with_reducible refine Gr.alloc ?_ _ | with_reducible refine Gr.drew ?_ | with_reducible refine Gr.trans ?_ (by assumption) | with_reducible refine Gr.setCell ?_ (by (try simp); (try omega)) _))))
  have HGW := Lib.hid g1
  clear hbwa hzwa hcwa hfwa hbwf hzwf hcwf hfwf hbwb hzwb hcwb hfwb hbwc hzwc hcwc hfwc hbwd hzwd hcwd hfwd hbwe hzwe hcwe hfwe hbwg hzwg hcwg hfwg H1 H2 H3 H4 H5 H6 H7 g1 g2 g3 HR1 HR2 HT HV HT1 HG
  generalize (wg.alloc (.cells #[.int .i64 4, .int .i64 0] 28)) = W9 at *
  obtain ⟨p0, p1, p2, p3, p4, p5, p6, p7, p8⟩ := k1
  obtain ⟨q0, q1, q2, q3, q4, q5⟩ := k2
  go_wp2_with (first
    | (go_at_call 19; with_reducible refine (s_same _ _ _ _ [(5, 1), (6, 5)] _ (HR1'.out.keep (by repeat (first | with_reducible exact Gr.refl _ | with_reducible refine Gr.alloc ?_ _ | with_reducible refine Gr.drew ?_ | with_reducible refine Gr.trans ?_ (by assumption) | with_reducible refine Gr.setCell ?_ (by (try simp); (try omega)) _))) (rows_newb _ _ _ 2 2 _ _ (by simp) lit_c1)).mono ?_; rintro e w' ⟨rfl, hb⟩; have hz := hb.le; obtain ⟨hc, hf⟩ := hb.cells; (try simp only [World.size_alloc] at hc hf hz); (try simp only [World.size_setCell] at hc hf hz); (try simp only [World.size_drew] at hc hf hz))
    | (go_at_call 19; with_reducible refine (s_same _ _ _ _ [(6, 2), (8, 7)] _ (HR2'.out.keep (by repeat (first | with_reducible exact Gr.refl _ | with_reducible refine Gr.alloc ?_ _ | with_reducible refine Gr.drew ?_ | with_reducible refine Gr.trans ?_ (by assumption) | with_reducible refine Gr.setCell ?_ (by (try simp); (try omega)) _))) (rows_newb _ _ _ 2 2 _ _ (by simp) lit_c2)).mono ?_; rintro e w' ⟨rfl, hb⟩; have hz := hb.le; obtain ⟨hc, hf⟩ := hb.cells; (try simp only [World.size_alloc] at hc hf hz); (try simp only [World.size_setCell] at hc hf hz); (try simp only [World.size_drew] at hc hf hz))
    | (go_at_call 13; with_reducible refine (H8.out _ (HTW.out.keep (by repeat (first | with_reducible exact Gr.refl _ | with_reducible refine Gr.alloc ?_ _ | with_reducible refine Gr.drew ?_ | with_reducible refine Gr.trans ?_ (by assumption) | with_reducible refine Gr.setCell ?_ (by (try simp); (try omega)) _))) (HVW.out.keep (by repeat (first | with_reducible exact Gr.refl _ | with_reducible refine Gr.alloc ?_ _ | with_reducible refine Gr.drew ?_ | with_reducible refine Gr.trans ?_ (by assumption) | with_reducible refine Gr.setCell ?_ (by (try simp); (try omega)) _)))).mono ?_; rintro e w' ⟨rfl, hb⟩; have hz := hb.le; obtain ⟨hc, hf⟩ := hb.cells; (try simp only [World.size_alloc] at hc hf hz); (try simp only [World.size_setCell] at hc hf hz); (try simp only [World.size_drew] at hc hf hz)))
  go_ret
  exact ⟨rfl, HGW.out.trans (by repeat (first | with_reducible exact Gr.refl _ | with_reducible refine Gr.alloc ?_ _ | with_reducible refine Gr.drew ?_ | with_reducible refine Gr.trans ?_ (by assumption) | with_reducible refine Gr.setCell ?_ (by (try simp); (try omega)) _))⟩
end Go.Proofs.YtbaopniofhbjdaaDoor
