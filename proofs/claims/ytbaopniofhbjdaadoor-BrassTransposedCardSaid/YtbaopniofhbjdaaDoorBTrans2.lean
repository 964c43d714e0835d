/-
  The law BrassTransposed returns true for every input.
-/
import Derived.Test.YtbaopniofhbjdaaDoorBTrans
import Derived.Test.YtbaopniofhbjdaaDoorBPlain
namespace Go.Proofs.YtbaopniofhbjdaaDoor
open Go.RowKit

/-- A pitch moved by an interval. -/
def moveP (b y : V6) : V6 := ⟨b.x0 + 12 * y.x0, b.x1 + 12 * y.x1, b.x2 + 12 * y.x2, b.x3 + 12 * y.x3, b.x4 + 12 * y.x4, b.x5 + 12 * y.x5⟩
def moveV (v y : V6) : V6 := ⟨v.x0 + y.x0, v.x1 + y.x1, v.x2 + y.x2, v.x3 + y.x3, v.x4 + y.x4, v.x5 + y.x5⟩
theorem moveP_get (b y : V6) (k : Nat) (hk : k < 6) : (moveP b y).get k = b.get k + 12 * y.get k := by
  rcases (show k = 0 ∨ k = 1 ∨ k = 2 ∨ k = 3 ∨ k = 4 ∨ k = 5 by omega) with rfl | rfl | rfl | rfl | rfl | rfl <;> rfl
theorem moveV_get (b y : V6) (k : Nat) (hk : k < 6) : (moveV b y).get k = b.get k + y.get k := by
  rcases (show k = 0 ∨ k = 1 ∨ k = 2 ∨ k = 3 ∨ k = 4 ∨ k = 5 by omega) with rfl | rfl | rfl | rfl | rfl | rfl <;> rfl
theorem sound_move (b y : V6) (f : Nat → Nat → Int) (n x s i : Nat) (hi : i < 6) : soundF (moveP b y) f n x s i = soundF b f n x s i + 12 * y.get i := by
  unfold soundF; rw [moveP_get _ _ _ hi]; omega
theorem near_move (b v y : V6) (f : Nat → Nat → Int) (n x s : Nat) : (atV (moveV v y)).sub (soundV (moveP b y) f n x s) = (atV v).sub (soundV b f n x s) := by
  have h := fun i hi => sound_move b y f n x s i hi
  simp only [V6.sub, atV, soundV, moveV, V6.mk.injEq]
  rw [h 0 (by omega), h 1 (by omega), h 2 (by omega), h 3 (by omega), h 4 (by omega), h 5 (by omega)]
  simp only [V6.get]
  refine ⟨?_, ?_, ?_, ?_, ?_, ?_⟩ <;> omega
theorem soundV_bd {b : V6} {f : Nat → Nat → Int} {n : Nat} (hb : allIn b 100 6 = true) (hf : rowsIn f 70 n = true) (hn : n ≤ 4) (x s : Nat) (k : Nat) (hk : k < 6) : -440 ≤ (soundV b f n x s).get k ∧ (soundV b f n x s).get k ≤ 440 := by
  rw [soundV_get _ _ _ _ _ _ hk]
  unfold soundF
  have h1 := allIn_at hb k hk
  have h2 : pvI x k ≤ 5 := vp_le _ _ _
  have h3 := vsum_bd (vs := f) (s := s) (i := k) (B := 70) (k := n) (fun j hj => by
    have := allIn_at ((rowsIn_iff f 70 n).1 hf j hj) k hk
    rcases (show k = 0 ∨ k = 1 ∨ k = 2 ∨ k = 3 ∨ k = 4 ∨ k = 5 by omega) with rfl | rfl | rfl | rfl | rfl | rfl <;> exact this) (by omega)
  have h4 : (70 : Int) * (n : Int) ≤ 280 := by omega
  omega
theorem plays_move {b v y : V6} {f : Nat → Nat → Int} {n : Nat} (hb : allIn b 100 6 = true) (hy : allIn y 10 6 = true) (hf : rowsIn f 70 n = true) (hn : n ≤ 4) (tol : Int) (x s : Nat) : playsB (moveP b y) f n tol (moveV v y) x s = playsB b f n tol v x s := by
  have h1 : allIn (soundV b f n x s) 576 6 = true := allIn_mk fun k hk => by have := soundV_bd hb hf hn x s k hk; omega
  have h2 : allIn (soundV (moveP b y) f n x s) 576 6 = true := allIn_mk fun k hk => by
    rw [soundV_get _ _ _ _ _ _ hk, sound_move _ _ _ _ _ _ _ hk, ← soundV_get _ _ _ _ _ _ hk]
    have := soundV_bd hb hf hn x s k hk
    have := allIn_at hy k hk
    omega
  rw [playsB_near h1, playsB_near h2, near_move]
theorem find_move {b v y : V6} {f : Nat → Nat → Int} {n : Nat} {most tol : Int} (hok : hornOk b n f most tol = true) (hb : allIn b 100 6 = true) (hy : allIn y 10 6 = true) (hv : allIn v 38 6 = true) (hf : rowsIn f 70 n = true) :
    goodFV b f n most tol v = true ∧ goodFV (moveP b y) f n most tol (moveV v y) = true ∧ findAll (moveP b y) f n most tol (moveV v y) = findAll b f n most tol v := by
  obtain ⟨h1, h2, h3, h4, h5, h6, h7⟩ := hornOk_parts hok
  have g1 : allIn v 48 6 = true := allIn_mk fun k hk => by have := allIn_at hv k hk; omega
  have g2 : allIn (moveV v y) 48 6 = true := allIn_mk fun k hk => by rw [moveV_get _ _ _ hk]; have := allIn_at hv k hk; have := allIn_at hy k hk; omega
  have g3 : allIn (moveP b y) 576 6 = true := allIn_mk fun k hk => by rw [moveP_get _ _ _ hk]; have := allIn_at hb k hk; have := allIn_at hy k hk; omega
  have hok2 : hornOk (moveP b y) n f most tol = true := by rw [hornOk_in g3 ⟨h2, h3, h4, h5, h6⟩]; exact h7
  have e1 : goodFV b f n most tol v = true := by simp [goodFV, hok, g1]
  have e2 : goodFV (moveP b y) f n most tol (moveV v y) = true := by simp [goodFV, hok2, g2]
  refine ⟨e1, e2, ?_⟩
  rw [findAll_yes e1, findAll_yes e2]
  unfold findL
  exact List.filter_congr fun p _ => plays_move hb hy hf h2 tol _ _
set_option maxHeartbeats 2000000 in
theorem trans_law (b0 b1 b2 b3 b4 b5 most tol v0 v1 v2 v3 v4 v5 y0 y1 y2 y3 y4 y5 : Int) (A : Option Addr) (n c : Nat) (f : Nat → Nat → Int) (hn : n ≤ 9223372036854775807) (w : World) (hT : Tabs w) (hV : RowsAt w 6 A n f) :
    Calls Tryd.prog 7 #[.agg #[.int .i64 b0, .int .i64 b1, .int .i64 b2, .int .i64 b3, .int .i64 b4, .int .i64 b5, .slice A n c, .int .i64 most, .int .i64 tol], .agg #[.int .i64 v0, .int .i64 v1, .int .i64 v2, .int .i64 v3, .int .i64 v4, .int .i64 v5], .agg #[.int .i64 y0, .int .i64 y1, .int .i64 y2, .int .i64 y3, .int .i64 y4, .int .i64 y5]] w fun e w' => e = .returned (.bool true) ∧ Gr w w' := by
  have hVal := fun W (g : Gr w W) => hornValid_any b0 b1 b2 b3 b4 b5 most tol A n c f W (hT.keep g).primes (hV.keep g) hn
  have bad := fun h => trans_bad b0 b1 b2 b3 b4 b5 most tol v0 v1 v2 v3 v4 v5 y0 y1 y2 y3 y4 y5 _ A n c w hT hVal h
  cases hok : hornOk ⟨b0, b1, b2, b3, b4, b5⟩ n f most tol with
  | false => exact bad (.inl hok)
  | true =>
    cases h1 : allIn ⟨b0, b1, b2, b3, b4, b5⟩ 100 6 with
    | false => exact bad (.inr (.inl ⟨hok, h1⟩))
    | true =>
      cases h2 : allIn ⟨y0, y1, y2, y3, y4, y5⟩ 10 6 with
      | false => exact bad (.inr (.inr (.inl ⟨hok, h1, h2⟩)))
      | true =>
        cases h3 : allIn ⟨v0, v1, v2, v3, v4, v5⟩ 38 6 with
        | false => exact bad (.inr (.inr (.inr ⟨hok, h1, h2, h3⟩)))
        | true =>
          rw [hok] at hVal
          refine trans_good b0 b1 b2 b3 b4 b5 most tol v0 v1 v2 v3 v4 v5 y0 y1 y2 y3 y4 y5 A n c _ f (blowF (findAll ⟨b0, b1, b2, b3, b4, b5⟩ f n most tol ⟨v0, v1, v2, v3, v4, v5⟩)) w hT hV hn (findAll_len (base := ⟨b0, b1, b2, b3, b4, b5⟩) (f := f) (n := n) (most := most) (tol := tol) (v := ⟨v0, v1, v2, v3, v4, v5⟩)) hVal h1 h2 h3 (fun hf W g => ?_) (fun hf W g => ?_)
          · obtain ⟨e1, -, -⟩ := find_move hok h1 h2 h3 hf
            obtain ⟨E, hF, hE⟩ := Find_all b0 b1 b2 b3 b4 b5 most tol v0 v1 v2 v3 v4 v5 A n c f hn
            rcases hE with ⟨-, rfl⟩ | ⟨h, -⟩
            · refine (hF W (hT.keep g) (hV.keep g)).mono ?_
              rintro e w' ⟨A1, c1, rfl, hr, -, hb⟩
              exact ⟨A1, c1, rfl, hr, hb⟩
            · rw [e1] at h; cases h
          · obtain ⟨-, e2, e3⟩ := find_move hok h1 h2 h3 hf
            obtain ⟨E, hF, hE⟩ := Find_all (b0 + 12 * y0) (b1 + 12 * y1) (b2 + 12 * y2) (b3 + 12 * y3) (b4 + 12 * y4) (b5 + 12 * y5) most tol (v0 + y0) (v1 + y1) (v2 + y2) (v3 + y3) (v4 + y4) (v5 + y5) A n c f hn
            change goodFV ⟨b0 + 12 * y0, b1 + 12 * y1, b2 + 12 * y2, b3 + 12 * y3, b4 + 12 * y4, b5 + 12 * y5⟩ f n most tol ⟨v0 + y0, v1 + y1, v2 + y2, v3 + y3, v4 + y4, v5 + y5⟩ = true at e2
            change findAll ⟨b0 + 12 * y0, b1 + 12 * y1, b2 + 12 * y2, b3 + 12 * y3, b4 + 12 * y4, b5 + 12 * y5⟩ f n most tol ⟨v0 + y0, v1 + y1, v2 + y2, v3 + y3, v4 + y4, v5 + y5⟩ = _ at e3
            rcases hE with ⟨-, rfl⟩ | ⟨h, -⟩
            · rw [e3] at hF
              refine (hF W (hT.keep g) (hV.keep g)).mono ?_
              rintro e w' ⟨A1, c1, rfl, hr, -, hb⟩
              exact ⟨A1, c1, rfl, hr, hb⟩
            · rw [e2] at h; cases h
end Go.Proofs.YtbaopniofhbjdaaDoor
