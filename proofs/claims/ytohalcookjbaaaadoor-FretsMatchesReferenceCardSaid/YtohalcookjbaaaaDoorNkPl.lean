/-
  schismalaw12.plays at a valid neck, fret, interval.
-/
import Derived.Test.YtohalcookjbaaaaDoorNkHx
namespace Go.Proofs.YtohalcookjbaaaaDoor
open Go.RowKit

/-- The numbers of the pitch that string s sounds at fret k. -/
def sndI (o q : Nat → Nat → Int) (s : Nat) : Nat → Nat → Int
  | 0, j => o s j
  | k + 1, j => o s j + q k j
theorem sndI_is (o q : Nat → Nat → Int) (s k : Nat) : soundF o q s k = ⟨sndI o q s k 0, sndI o q s k 1, sndI o q s k 2, sndI o q s k 3, sndI o q s k 4, sndI o q s k 5⟩ := by cases k <;> rfl
theorem fsound_at (O Q : Option Addr) (no co nf cq : Nat) (sp tl : Int) (o q : Nat → Nat → Int) (s k : Nat) (w : World) (hP : Primes w) (hO : RowsAt w 6 O no o) (hQ : RowsAt w 6 Q nf q) (hno : no ≤ 9223372036854775807) (hnf : nf ≤ 9223372036854775807) (hok : neckB no o nf q sp tl = true) (hs : s < no) (hk : k ≤ nf) :
    Calls Tryd.prog 20 #[.agg #[.slice O no co, .slice Q nf cq, .int .i64 sp, .int .i64 tl], .agg #[.int .i64 (s : Int), .int .i64 (k : Int)]] w fun e w' => e = .returned (.tuple #[.agg #[.int .i64 (sndI o q s k 0), .int .i64 (sndI o q s k 1), .int .i64 (sndI o q s k 2), .int .i64 (sndI o q s k 3), .int .i64 (sndI o q s k 4), .int .i64 (sndI o q s k 5)], .int .i64 0]) ∧ Gr w w' := by
  cases k with
  | zero => exact fsound_open O Q no co nf cq sp tl o q s w hP hO hQ hno hnf hok hs
  | succ k => exact fsound_fret O Q no co nf cq sp tl o q s k w hP hO hQ hno hnf hok hs (by omega)
set_option maxRecDepth 100000 in
set_option maxHeartbeats 16000000 in
theorem plays_ok (O Q : Option Addr) (no co nf cq : Nat) (sp tl : Int) (o q : Nat → Nat → Int) (s k : Nat) (v0 v1 v2 v3 v4 v5 : Int) (w : World) (hP : Primes w) (hL : Logs w) (hO : RowsAt w 6 O no o) (hQ : RowsAt w 6 Q nf q) (hno : no ≤ 9223372036854775807) (hnf : nf ≤ 9223372036854775807) (hok : neckB no o nf q sp tl = true) (hs : s < no) (hk : k ≤ nf) (hv : allIn ⟨v0, v1, v2, v3, v4, v5⟩ 48 6 = true) :
    Calls Tryd.prog 26 #[.agg #[.slice O no co, .slice Q nf cq, .int .i64 sp, .int .i64 tl], .agg #[.int .i64 (s : Int), .int .i64 (k : Int)], .agg #[.int .i64 v0, .int .i64 v1, .int .i64 v2, .int .i64 v3, .int .i64 v4, .int .i64 v5]] w fun e w' => e = .returned (.bool (playsF o q tl ⟨v0, v1, v2, v3, v4, v5⟩ s k)) ∧ Gr w w' := by
  obtain ⟨⟨l1, l2, l3, l4, l5, l6, l7⟩, hri, hop⟩ := neckB_parts hok
  have hva := atV_in hv
  simp only [atV] at hva
  have hsi := soundF_in hok hs hk
  rw [sndI_is] at hsi
  obtain ⟨X, hX, hx1⟩ := near_F _ _ _ _ _ _ (sndI o q s k 0) (sndI o q s k 1) (sndI o q s k 2) (sndI o q s k 3) (sndI o q s k 4) (sndI o q s k 5) tl hva hsi l6 l7
  have HX1 : Hid ((X == 1) = playsF o q tl ⟨v0, v1, v2, v3, v4, v5⟩ s k) := Lib.hid (by rw [hx1]; unfold playsF; rw [sndI_is]; rfl)
  have HX := Lib.hid hX
  have HS := Lib.hid (fun W (g : Gr w W) => fsound_at O Q no co nf cq sp tl o q s k W (hP.keep g) (hO.keep g) (hQ.keep g) hno hnf hok hs hk)
  have HOF := Lib.hid (fun W => pof_ok v0 v1 v2 v3 v4 v5 W hv)
  have HLG := Lib.hid hL
  clear hP hL hO hQ hok hri hop hva hsi hX hx1 hv
  generalize sndI o q s k 0 = z0 at *
  generalize sndI o q s k 1 = z1 at *
  generalize sndI o q s k 2 = z2 at *
  generalize sndI o q s k 3 = z3 at *
  generalize sndI o q s k 4 = z4 at *
  generalize sndI o q s k 5 = z5 at *
  rw [← HX1.out]
  clear HX1
  go_enter Tryd.func26, Tryd.ntmps26
  go_wp2_with fail
  (go_at_call 20; with_reducible refine (HS.out _ (by repeat (first | with_reducible exact Gr.refl _ | with_reducible refine Gr.alloc ?_ _ | with_reducible refine Gr.drew ?_ | with_reducible refine Gr.trans ?_ (by assumption) | with_reducible refine Gr.setCell ?_ (by (try simp); (try omega)) _))).mono ?_; rintro e w' ⟨rfl, hb⟩; have hz := hb.le; obtain ⟨hc, hf⟩ := hb.cells; have hn := hb.cellsN; (try simp only [World.size_alloc] at hc hf hz hn); (try simp only [World.size_setCell] at hc hf hz hn); (try simp only [World.size_drew] at hc hf hz hn))
  go_wp2_with fail
  (go_at_call 28; with_reducible refine (HOF.out _).mono ?_; rintro e w' ⟨rfl, hb⟩; have hz := hb.le; obtain ⟨hc, hf⟩ := hb.cells; have hn := hb.cellsN; (try simp only [World.size_alloc] at hc hf hz hn); (try simp only [World.size_setCell] at hc hf hz hn); (try simp only [World.size_drew] at hc hf hz hn))
  go_wp2_with fail
  (go_at_call 46; with_reducible refine (HX.out _ (HLG.out.keep (by repeat (first | with_reducible exact Gr.refl _ | with_reducible refine Gr.alloc ?_ _ | with_reducible refine Gr.drew ?_ | with_reducible refine Gr.trans ?_ (by assumption) | with_reducible refine Gr.setCell ?_ (by (try simp); (try omega)) _)))).mono ?_; rintro e w' ⟨rfl, hb⟩; have hz := hb.le; obtain ⟨hc, hf⟩ := hb.cells; have hn := hb.cellsN; (try simp only [World.size_alloc] at hc hf hz hn); (try simp only [World.size_setCell] at hc hf hz hn); (try simp only [World.size_drew] at hc hf hz hn))
  go_wp2_with fail
  go_ret
  exact ⟨ret_bool (by simp), (by repeat (first | with_reducible exact Gr.refl _ | with_reducible refine Gr.alloc ?_ _ | with_reducible refine Gr.drew ?_ | with_reducible refine Gr.trans ?_ (by assumption) | with_reducible refine Gr.setCell ?_ (by (try simp); (try omega)) _))⟩
end Go.Proofs.YtohalcookjbaaaaDoor
