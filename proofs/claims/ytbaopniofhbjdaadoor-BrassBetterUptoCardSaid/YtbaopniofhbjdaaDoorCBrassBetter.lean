/-
  For every input the law BrassBetter of schismalaw13 returns true, and its arguments read behind the call as before. The package variables that it reads hold what the program's text lays there (tied by the card).
-/
import Derived.Test.YtbaopniofhbjdaaDoorLift
import Derived.Test.YtbaopniofhbjdaaDoorLiftH
import Derived.Test.YtbaopniofhbjdaaDoorBBet
namespace Go.Proofs.YtbaopniofhbjdaaDoor.brassBetter
open Go.ChangeShapes Go.WideShapes Go.ChangeAt Go.RowKit

theorem bulk_pos {H : Type} (d : DataW H) : 1 ≤ Rows.uptoBulk d := by
  cases d with
  | lit l => cases l <;> simp [Rows.uptoBulk]
  | nil => simp [Rows.uptoBulk]
  | ptr d => simp [Rows.uptoBulk]
  | slice elems spare => simp [Rows.uptoBulk]
  | agg parts => simp [Rows.uptoBulk]
  | iface t d => simp [Rows.uptoBulk]
  | map entries => simp [Rows.uptoBulk]
  | held h => simp [Rows.uptoBulk]
theorem bulk_part {H : Type} {d : DataW H} {l : List (DataW H)} (h : d ∈ l) : Rows.uptoBulk d ≤ Rows.uptoBulkAll l := by
  induction l with
  | nil => cases h
  | cons x r ih =>
    simp only [Rows.uptoBulkAll]
    rcases List.mem_cons.1 h with e | e
    · subst e; omega
    · have := ih e; omega
theorem bulk_length {H : Type} (l : List (DataW H)) : l.length ≤ Rows.uptoBulkAll l := by
  induction l with
  | nil => simp [Rows.uptoBulkAll]
  | cons x r ih => have := bulk_pos x; simp only [Rows.uptoBulkAll, List.length_cons]; omega
/-- A list of pitches that was read is no longer than the bulk of what was read. -/
theorem rows6_bulk {H : Type} {enc : TypeId × Value → H} {W : World} {fuel : Nat} {A : Option Addr} {n c : Nat} {x : DataW H × List MemPlace} (h : DataW.trod enc Tryd.prog W 0 (fun _ => true) true fuel 24 [.slice A n c] = some x) : n ≤ Rows.uptoBulk x.1 := by
  rcases DataW.trod_slice Tryd.underlying24 h with ⟨e, -⟩ | ⟨a, len, cap, elems, rest, m, -, e, rfl, -, -, -, hl, -⟩
  · simp only [List.cons.injEq, Value.slice.injEq, and_true] at e
    omega
  · simp only [List.cons.injEq, Value.slice.injEq, and_true] at e
    have h1 := bulk_length (elems.map (·.1))
    rw [List.length_map] at h1
    simp only [Rows.uptoBulk]
    omega
set_option maxRecDepth 100000 in
/-- The list in a horn that was read. -/
theorem horn_bulk {H : Type} {enc : TypeId × Value → H} {W : World} {d : DataW H} {p : List MemPlace} {a0 a1 a2 a3 a4 a5 most tol : Int} {A : Option Addr} {n c : Nat}
    (h : DataW.Trod enc Tryd.prog W 0 (fun _ => true) true 26 (.agg #[.int .i64 a0, .int .i64 a1, .int .i64 a2, .int .i64 a3, .int .i64 a4, .int .i64 a5, .slice A n c, .int .i64 most, .int .i64 tol]) d p) : n ≤ Rows.uptoBulk d := by
  obtain ⟨fuel, hf⟩ := h
  obtain ⟨xs, m, -, e, -, hxl, hi⟩ := DataW.trod_struct Tryd.underlying26 hf
  have g1 := hi 1 _ rfl
  have hxl4 : xs.length = 4 := hxl
  rw [List.getElem?_eq_getElem (by omega)] at g1
  change DataW.trod enc Tryd.prog W 0 (fun _ => true) true m 24 [.slice A n c] = _ at g1
  have h1 := rows6_bulk g1
  have h2 : xs[1].1 ∈ xs.map (·.1) := List.mem_map.2 ⟨_, List.getElem_mem (by omega), rfl⟩
  have h3 := bulk_part h2
  simp only [Prod.mk.injEq] at e
  obtain ⟨rfl, -⟩ := e
  simp only [Rows.uptoBulk]
  omega
set_option maxRecDepth 100000 in
/-- A list of pitches that came in. -/
theorem open_pitches {H : Type} {enc : TypeId × Value → H} {W : World} {r : Reach} {b0 : Nat} {v : Value} {d : DataW H} {p : List MemPlace} (hv : Value.okWide Tryd.prog W r b0 24 v)
    (h : DataW.Trod enc Tryd.prog W 0 (fun _ => true) true 24 v d p) : ∃ (A : Option Addr) (n c : Nat) (f : Nat → Nat → Int), v = .slice A n c ∧ RowsAt W 6 A n f ∧ n ≤ Rows.uptoBulk d := by
  obtain ⟨a, len, cap, rfl⟩ := okWide_slice Tryd.underlying24 hv
  obtain ⟨fuel, hf⟩ := h
  have hf' : DataW.trod enc Tryd.prog W 0 (fun _ => true) true fuel 24 [.slice a len cap] = some (d, p) := hf
  obtain ⟨A, n, c, f, e, hR, -⟩ := rows6_trod hf'
  simp only [List.cons.injEq, Value.slice.injEq, and_true] at e
  obtain ⟨rfl, rfl, rfl⟩ := e
  exact ⟨_, _, _, f, rfl, hR, rows6_bulk hf'⟩

set_option maxRecDepth 100000 in
theorem contract (H : Type) (enc : TypeId × Value → H) (W : World) (base : Nat) (args : Array Value) (ds gs : List (DataW H)) (before : List MemPlace)
    (hval : ∀ (j : Nat) t v, Tryd.f6.params[j]? = some t → args[j]? = some v → Value.okWide Tryd.prog W .any base t v)
    (hW : DataW.Whole enc Tryd.prog Tryd.f6.params.toList Rows.brassBetterSpec.vars false W args.toList ds gs before) (hk : Rows.uptoSmall H (ds ++ gs) = true) (hL : laidMetH Tryd.prog Rows.brassBetterUptoRow.laid W) :
    Calls Tryd.prog 6 args W fun e W' => ∃ v, e = .returned v ∧ Rows.brassBetterSpec.post enc Tryd.prog Tryd.f6 false true false false W args v W' := by
  have hW' := hW
  obtain ⟨p, q, hA0, hV, rfl, hfz, hnd⟩ := hW
  obtain ⟨rfl, rfl⟩ := trodVars_none hV
  have hA : DataW.TrodAll enc Tryd.prog W 0 (fun _ => true) true Tryd.f6.params.toList args.toList ds p := hA0
  rw [Tryd.params6] at hA hval
  obtain ⟨v0, vs0, d0, ds0, p0, q0, hargs, rfl, rfl, h0, r0⟩ := trodAll_cons hA
  obtain ⟨v1, vs1, d1, ds1, p1, q1, rfl, rfl, rfl, h1, r1⟩ := trodAll_cons r0
  obtain ⟨v2, vs2, d2, ds2, p2, q2, rfl, rfl, rfl, h2, r2⟩ := trodAll_cons r1
  obtain ⟨v3, vs3, d3, ds3, p3, q3, rfl, rfl, rfl, h3, r3⟩ := trodAll_cons r2
  obtain ⟨v4, vs4, d4, ds4, p4, q4, rfl, rfl, rfl, h4, r4⟩ := trodAll_cons r3
  obtain ⟨rfl, rfl, rfl⟩ := trodAll_nil r4
  obtain rfl : args = #[v0, v1, v2, v3, v4] := by cases args; simp_all
  obtain ⟨x0_0, x0_1, x0_2, x0_3, x0_4, x0_5, x0_6, x0_7, A0, n0, c0, f0, rfl, hR0, hn0⟩ := open_horn (hval 0 26 v0 rfl rfl) h0
  obtain ⟨x1_0, x1_1, x1_2, x1_3, x1_4, x1_5, rfl⟩ := open_vec (hval 1 29 v1 rfl rfl) h1
  obtain ⟨i2, rfl, -, -, wf2⟩ := open_int Tryd.underlying3 (hval 2 3 v2 rfl rfl) h2
  obtain ⟨i3, rfl, -, -, wf3⟩ := open_int Tryd.underlying3 (hval 3 3 v3 rfl rfl) h3
  obtain ⟨M, k, ck, fm, rfl, hM, hm4⟩ := open_pitches (hval 4 24 v4 rfl rfl) h4
  have hu0 := horn_bulk h0
  simp only [List.append_nil] at hk
  have hku : Rows.uptoBulkAll [d0, d1, d2, d3, d4] ≤ 1048576 := of_decide_eq_true hk
  simp only [Rows.uptoBulkAll] at hku
  have hb0 : n0 ≤ 1048576 := by omega
  have hb4 : k ≤ 1048576 := by omega
  have hT : Tabs W := tabs_of (l := Rows.brassBetterUptoRow.laid) hL (by simp [Rows.brassBetterUptoRow]) (by simp [Rows.brassBetterUptoRow]) (by simp [Rows.brassBetterUptoRow])
  refine (bet_walk x0_0 x0_1 x0_2 x0_3 x0_4 x0_5 x0_6 x0_7 x1_0 x1_1 x1_2 x1_3 x1_4 x1_5 i2 i3 A0 M n0 c0 k ck f0 fm W hb0 hb4 hT hR0 hM).mono fun e W' ⟨he, hg⟩ => ?_
  subst he
  refine ⟨_, rfl, post_true hW' rfl rfl (by kernel_rfl) (fun t ht => ?_) hg⟩
  rw [Tryd.params6] at ht
  have ht : t = 26 ∨ t = 29 ∨ t = 3 ∨ t = 24 := by simpa using ht
  rcases ht with rfl | rfl | rfl | rfl
  all_goals exact ⟨by kernel_rfl, Nat.le_of_ble_eq_true (by kernel_rfl)⟩

theorem laid_met (os : Os) : laidMet Tryd.prog Rows.brassBetterUptoRow.laid ((laidWorld3 os).forCall (fun _ _ => 0) ⟨#[], #[Value.agg #[.int .i64 0, .int .i64 0, .int .i64 0, .int .i64 0, .int .i64 0, .int .i64 0, .slice none 0 0, .int .i64 0, .int .i64 0], .agg #[.int .i64 0, .int .i64 0, .int .i64 0, .int .i64 0, .int .i64 0, .int .i64 0], .int .i64 0, .int .i64 0, .slice none 0 0], []⟩).memory :=
  laidMet_of_run' 8 (by kernel_rfl) (by kernel_rfl)
theorem reads (os : Os) {H : Type} (enc : TypeId × Value → H) : ∃ places, DataW.whole enc Tryd.prog ((laidWorld3 os).forCall (fun _ _ => 0) ⟨#[], #[Value.agg #[.int .i64 0, .int .i64 0, .int .i64 0, .int .i64 0, .int .i64 0, .int .i64 0, .slice none 0 0, .int .i64 0, .int .i64 0], .agg #[.int .i64 0, .int .i64 0, .int .i64 0, .int .i64 0, .int .i64 0, .int .i64 0], .int .i64 0, .int .i64 0, .slice none 0 0], []⟩).memory Tryd.f6.params.toList Rows.brassBetterSpec.vars false #[Value.agg #[.int .i64 0, .int .i64 0, .int .i64 0, .int .i64 0, .int .i64 0, .int .i64 0, .slice none 0 0, .int .i64 0, .int .i64 0], .agg #[.int .i64 0, .int .i64 0, .int .i64 0, .int .i64 0, .int .i64 0, .int .i64 0], .int .i64 0, .int .i64 0, .slice none 0 0].toList 8 = some ([.agg [.agg [.lit (.int .i64 0), .lit (.int .i64 0), .lit (.int .i64 0), .lit (.int .i64 0), .lit (.int .i64 0), .lit (.int .i64 0)], .nil, .lit (.int .i64 0), .lit (.int .i64 0)], .agg [.lit (.int .i64 0), .lit (.int .i64 0), .lit (.int .i64 0), .lit (.int .i64 0), .lit (.int .i64 0), .lit (.int .i64 0)], .lit (.int .i64 0), .lit (.int .i64 0), .nil], [], places) :=
  ⟨[], by kernel_rfl⟩
set_option maxRecDepth 100000 in
theorem lifted (os : Os) (started : os.Started) (H : Type) (enc : TypeId × Value → H) (F : Stop.Interp) :
    ReturnsInHanded {} Tryd.checked os 6 .any ((Rows.OpenSpec.upto Rows.brassBetterSpec).preRow enc Tryd.prog Tryd.f6 Rows.brassBetterUptoRow.domain false Rows.brassBetterUptoRow.laid) (((Rows.OpenSpec.upto Rows.brassBetterSpec).at F).post enc Tryd.prog Tryd.f6 false true false false) := by
  obtain ⟨places, hx⟩ := reads os enc
  refine returnsInHanded_of_row (C := Tryd.checked) (s := Rows.OpenSpec.upto Rows.brassBetterSpec) own started (by kernel_rfl) Tryd.func6
    (witness_row_at (enc := enc) (C := Tryd.checked) false (laidWorld3 os) #[Value.agg #[.int .i64 0, .int .i64 0, .int .i64 0, .int .i64 0, .int .i64 0, .int .i64 0, .slice none 0 0, .int .i64 0, .int .i64 0], .agg #[.int .i64 0, .int .i64 0, .int .i64 0, .int .i64 0, .int .i64 0, .int .i64 0], .int .i64 0, .int .i64 0, .slice none 0 0] rfl (by kernel_rfl) (by kernel_rfl) (by kernel_rfl)
      (OpenSpec.preRow_of_cond 8 hx (by kernel_rfl) (fun k hk => by cases hk; kernel_rfl) (by kernel_rfl) (laid_met os))) ?_
  intro W base args ds gs before hval hW _ hk _ hL _ _
  exact contract H enc W base args ds gs before hval hW (hk _ rfl) hL

theorem said : Rows.BrassBetterUptoSaid :=
  OpenClaim.holds_of_cond 6 Tryd.f6 rfl rfl rfl rfl rfl rfl rfl ⟨rfl, rfl, rfl, rfl, rfl⟩ rfl rfl rfl rfl rfl (by kernel_rfl) Tryd.func6 (by kernel_rfl)
    (of_decide_eq_true (by kernel_rfl)) (by unfold Func.isWrapper; first | (rw [if_pos (by decide +kernel)]; kernel_rfl) | (rw [if_neg (by decide +kernel)]; exact ⟨rfl, rfl⟩))
    (fun os started H enc _ F => by rw [OpenClaim.pre_eq_preRow]; exact lifted os started H enc F)

theorem plain (f : FuncId) (fn : Func) (hf : Tryd.pinned.checked.prog.funcNamed "schisma/schismalaw13.BrassBetter" = some f) (hfn : Tryd.pinned.checked.prog.funcs[f]? = some fn) :
    true = Tryd.pinned.checked.prog.looks [] ∧ ∀ (j : Nat) t, fn.params[j]? = some t → Tryd.pinned.checked.prog.wantsStandIn t = false := by
  obtain rfl : f = 6 := Option.some.inj ((show Tryd.prog.funcNamed "schisma/schismalaw13.BrassBetter" = some 6 by kernel_rfl).symm.trans hf) |>.symm
  obtain rfl : fn = Tryd.f6 := (Option.some.inj (Tryd.func6.symm.trans hfn)).symm
  refine ⟨by kernel_rfl, fun j t ht => ?_⟩
  rw [Tryd.params6] at ht
  have ht : t = 26 ∨ t = 29 ∨ t = 3 ∨ t = 24 := by simpa using Array.mem_of_getElem? ht
  rcases ht with rfl | rfl | rfl | rfl
  all_goals (show Tryd.prog.wantsStandIn _ = false; kernel_rfl)

theorem card : Rows.BrassBetterUptoCardSaid :=
  Claim7.holds_tied_plain_at .later [] _ _ _ _ said (fun _ h => by cases h) (by kernel_rfl) (fun _ h => by cases h) brassBetterUpto_row_tie rfl ⟨rfl, rfl⟩ (by kernel_rfl) rfl plain (by kernel_rfl)
end Go.Proofs.YtbaopniofhbjdaaDoor.brassBetter
