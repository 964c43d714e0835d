/-
  package voice: runs: the runs that are sung on one breath, one after another.
-/
import Derived.Test.YtiogfohjepobkaaDoorBrea1
import Derived.Test.YtiogfohjepobkaaDoorFrac2
import Derived.IntWalk
namespace Go.Proofs.YtiogfohjepobkaaDoor
open Go.RowKit Go.Shelf
attribute [local go_sem] Oper.semAt_some

/-- How a run is handed on: its last note, and whether there is a place to breathe. -/
def encR (x : Int) : Array Value := #[.int .i64 x, .bool (decide (0 ≤ x))]
/-- What a round keeps: all below block Bl, and the three boxes of the iterator. -/
def KeepR (Bl : Nat) (W W' : World) : Prop := Below Bl W W' ∧ ∀ b, (b = Bl + 1 ∨ b = Bl + 1 + 1 ∨ b = Bl + 1 + 1 + 1) → ∀ o, W'.cell? ⟨b, o, none⟩ = W.cell? ⟨b, o, none⟩
theorem keepR_refl (Bl : Nat) (W : World) : KeepR Bl W W := ⟨Below.refl _ _, fun _ _ _ => rfl⟩
theorem keepR_t {Bl : Nat} {X Y Z : World} (h : KeepR Bl X Y) (k : KeepR Bl Y Z) : KeepR Bl X Z := ⟨h.1.trans k.1, fun b hb o => (k.2 b hb o).trans (h.2 b hb o)⟩
theorem keepR_drew {Bl : Nat} {X Y : World} (h : KeepR Bl X Y) : KeepR Bl X Y.drew := ⟨h.1.drew, fun b hb o => (World.cell?_drew _ _).trans (h.2 b hb o)⟩
theorem keepR_gr {Bl : Nat} {X Y : World} (h : Gr X Y) (hb : Bl + 1 + 1 + 1 < X.heap.size) : KeepR Bl X Y := ⟨Below.mono h (by omega), fun b e o => Below.cell (p := ⟨b, o, none⟩) h (show b < X.heap.size by omega)⟩
theorem keepR_b {Bl N : Nat} (hB : Bl + 1 + 1 + 1 < N) (W : World) (l : Nat) (o o' : Obj) (hl : N ≤ l) (h : W.heap[l]? = some o) (_ : o.isCells = false) (_ : o.isWalk = false) : KeepR Bl W (W.putObj l o') :=
  ⟨(Below.refl Bl W).grown (grownBy_putObj' W l o') (by have := (Array.getElem?_eq_some_iff.1 h).1; omega) (fun k e => by cases e; omega), fun b e i => World.cell?_of_block (World.putObj_heap_other (by simp; omega))⟩
theorem ints_below {w0 W : World} {B n : Nat} {A : Option Addr} {g : Nat → Int} (h : IntsAt w0 A n g) (k : Below B w0 W) (hB : w0.heap.size ≤ B) : IntsAt W A n g := h.keep (Below.mono k hB)
theorem bools_below {w0 W : World} {B n : Nat} {A : Option Addr} {m : Nat → Bool} (h : BoolsAt w0 A n m) (k : Below B w0 W) (hB : w0.heap.size ≤ B) : BoolsAt W A n m := h.keep (Below.mono k hB)

/-- What has been handed on when the runs have come to their end. -/
def RunsEnd (g : Nat → Int) (m : Nat → Bool) (br : Int) (n : Nat) (xs : List Int) : Prop := BrOk g m br n xs ∨ ∃ pre, xs = pre ++ [-1] ∧ BrBad g m br n pre
/-- What has been handed on when a round has broken off. -/
def RunsCut (g : Nat → Int) (m : Nat → Bool) (br : Int) (n : Nat) (xs : List Int) : Prop := ∃ pre x, xs = pre ++ [x] ∧ (x < 0 → BrBad g m br n pre)

theorem tfb (b : Bool) : b = true ∨ b = false := by cases b <;> simp
theorem preS_mono {g : Nat → Int} {n fr t : Nat} (h : lenOk g n = true) (h1 : fr ≤ t) (h2 : t ≤ n) : preS g fr ≤ preS g t := by
  induction t with
  | zero => obtain rfl : fr = 0 := by omega
            exact Int.le_refl _
  | succ t ih =>
    by_cases e : fr = t + 1
    · subst e; exact Int.le_refl _
    · have := ih (by omega) (by omega)
      have := lenOk_at h t (by omega)
      simp only [preS]; omega
theorem lastM_start (m : Nat → Bool) (fr : Nat) : lastM m fr fr = -1 := by
  have h : ∀ t, t ≤ fr → lastM m fr t = -1 := by
    intro t
    induction t with
    | zero => intro _; rfl
    | succ t ih => intro ht; simp only [lastM]; rw [if_neg (by omega)]; exact ih (by omega)
  exact h fr (Nat.le_refl _)
set_option maxRecDepth 100000 in
set_option maxHeartbeats 2000000 in
theorem runs_in (br : Int) (A M : Option Addr) (n c nm cm : Nat) (N : Nat) (w : World) :
    CallsIn Fence.wide N Tryd.prog 38 #[.int .i64 br, .slice A n c, .slice M nm cm] w
      fun e w' => e = .returned (.func (.func 59) #[] #[.pointer (some ⟨w.heap.size + 1, 0, none⟩), .pointer (some ⟨w.heap.size, 0, none⟩), .pointer (some ⟨w.heap.size + 1 + 1, 0, none⟩)]) ∧ w' = ((w.alloc (.cells #[.int .i64 br] 3)).alloc (.cells #[.slice A n c] 27)).alloc (.cells #[.slice M nm cm] 28) := by
  refine callsIn_wide.2 ?_
  have hmf : ∀ (fn : Fn) (first cap : Array Value) (w : World), (Instr.makeFunc fn first cap).run Tryd.prog w = .ok (.func fn first cap) w := fun _ _ _ _ => rfl
  go_enter Tryd.func38, Tryd.ntmps38
  go_wp2
  go_ret
  exact ⟨rfl, rfl⟩

set_option maxRecDepth 100000 in
set_option maxHeartbeats 8000000 in
theorem runs_stops (br : Int) (A M : Option Addr) (n c cm : Nat) (g : Nat → Int) (m : Nat → Bool) (hbr0 : 0 < br) (hbr1 : br ≤ 100000) (hn : n ≤ 200) (hok : lenOk g n = true) (N : Nat) (hN : 1 ≤ N) (Bl : Nat) (w0 w : World) (hw0 : w0.heap.size ≤ Bl) (hg0 : Gr w0 w) (hBl : Bl + 1 + 1 + 1 < w.heap.size) (hA : IntsAt w0 A n g) (hM : BoolsAt w0 M n m)
    (h1 : w.cell? ⟨Bl + 1, 0, none⟩ = some (.int .i64 br)) (h2 : w.cell? ⟨Bl + 1 + 1, 0, none⟩ = some (.slice A n c)) (h3 : w.cell? ⟨Bl + 1 + 1 + 1, 0, none⟩ = some (.slice M n cm)) :
    SeqStopsK Fence.wide N Tryd.prog 59 #[.pointer (some ⟨Bl + 1 + 1, 0, none⟩), .pointer (some ⟨Bl + 1, 0, none⟩), .pointer (some ⟨Bl + 1 + 1 + 1, 0, none⟩)] encR (KeepR Bl) (RunsEnd g m br n) (RunsCut g m br n) n w := fun l J Jx W hW hAJ _ hY h0 => by
  have HA := Lib.hid hA; have HM := Lib.hid hM; have HG := Lib.hid (hg0.trans hW)
  have H1 := Lib.hid ((hW.cell (p := ⟨Bl + 1, 0, none⟩) (show Bl + 1 < w.heap.size by omega)).trans h1); have H2 := Lib.hid ((hW.cell (p := ⟨Bl + 1 + 1, 0, none⟩) (show Bl + 1 + 1 < w.heap.size by omega)).trans h2); have H3 := Lib.hid ((hW.cell (p := ⟨Bl + 1 + 1 + 1, 0, none⟩) hBl).trans h3)
  have HY := Lib.hid hY; have H0 := Lib.hid h0; have HAJ := Lib.hid hAJ; have HOK := Lib.hid hok
  have hWs := hW.size
  clear hA hM h1 h2 h3 hY h0 hAJ hok hg0 hW
  refine callsIn_of_wp Tryd.func59 rfl trivial ?_ rfl
  simp only [Tryd.ntmps59, List.size_toArray, List.length_cons, List.length_nil, Nat.reduceAdd, Nat.reduceSub, Array.replicate_succ, Array.replicate_zero, List.push_toArray, List.append_toArray, List.nil_append, List.cons_append]
  gi_wp2
  gi_loopw [5] (fun i wr => ∃ (fr : Nat) (pre : List Int), Runs g m br n pre fr ∧ i = .int .i64 fr ∧ J pre wr ∧ KeepR Bl W wr) (fun i _ => n - (intOf i).toNat)
  case atStart => exact ⟨0, [], .nil, rfl, H0.out, keepR_refl _ _⟩
  case round =>
    obtain ⟨fr, pre, hR, rfl, hJ, hK⟩ := hrel
    obtain ⟨hl1, hl2⟩ := hR.le
    have HJ := Lib.hid hJ; have HK := Lib.hid hK; have HR := Lib.hid hR
    clear hJ hK hR
    have x1 := (HK.out.2 _ (.inl rfl) 0).trans H1.out
    have x2 := (HK.out.2 _ (.inr (.inl rfl)) 0).trans H2.out
    have x3 := (HK.out.2 _ (.inr (.inr rfl)) 0).trans H3.out
    by_cases hlt : fr < n
    · obtain ⟨wo, rfl⟩ : ∃ wo : World, wo = wr := ⟨_, rfl⟩
      gi_wp2
      gi_region
      have hJd := HAJ.out pre wo wo.drew none HJ.out ⟨rfl, rfl, rfl, Nat.le_refl _, fun _ _ _ => rfl⟩ (fun _ e => by cases e)
      have HJd := Lib.hid hJd
      have HKd := Lib.hid (keepR_drew HK.out)
      have HGd := Lib.hid (show Gr w0 wo.drew from Below.trans HG.out (Below.mono HKd.out.1 hw0))
      have y1 : wo.drew.cell? ⟨Bl + 1, 0, none⟩ = some (.int .i64 br) := (World.cell?_drew _ _).trans x1
      have y2 : wo.drew.cell? ⟨Bl + 1 + 1, 0, none⟩ = some (.slice A n c) := (World.cell?_drew _ _).trans x2
      have y3 : wo.drew.cell? ⟨Bl + 1 + 1 + 1, 0, none⟩ = some (.slice M n cm) := (World.cell?_drew _ _).trans x3
      clear x1 x2 x3 hJd
      generalize wo.drew = Wd at *
      gi_wp2
      gi_loop [6, 7, 8] (fun t la le => ∃ t' : Nat, fr ≤ t' ∧ t' ≤ n ∧ preS g t' - preS g fr ≤ br ∧ t = .int .i64 t' ∧ la = .int .i64 (lastM m fr t') ∧ le = .int .i64 (br - (preS g t' - preS g fr))) (fun t _ _ => n - (intOf t).toNat)
      case atStart => exact ⟨fr, Nat.le_refl _, by omega, by omega, rfl, by rw [lastM_start], by rw [Int.sub_self, Int.sub_zero]⟩
      case round =>
        obtain ⟨t, ht1, ht2, ht3, rfl, rfl, rfl⟩ := hrel
        by_cases htn : t < n
        · obtain ⟨ba, oa, rfl, hba, ca⟩ := (HA.out.keep HGd.out).one htn
          obtain ⟨bm, om, rfl, hbm, cm'⟩ := (HM.out.keep HGd.out).one htn
          have hg := lenOk_at HOK.out t htn
          obtain ⟨hg0', hg1'⟩ := hg
          have hpre := preS_mono HOK.out ht1 ht2
          by_cases hfit : g t ≤ br - (preS g t - preS g fr)
          · have HS := Lib.hid (show preS g (t + 1) = preS g t + g t from rfl)
            have hz : 0 ≤ br - (preS g t - preS g fr) - g t := by omega
            have hz2 : br - (preS g t - preS g fr) - g t ≤ 100000 := by omega
            have hwrap : IntKind.i64.wrap (br - (preS g t - preS g fr) - g t) = br - (preS g t - preS g fr) - g t := IntWalk.i64_in _ ⟨by omega, by omega⟩
            rcases tfb (m t) with hm | hm
            · have HL := Lib.hid (show lastM m fr (t + 1) = (t : Int) by simp [lastM, ht1, hm])
              rw [hm] at cm'
              clear hm
              gi_wp2
              go_round
              case rel => exact ⟨t + 1, by omega, by omega, by have := HS.out; omega, by go_num, by rw [HL.out], by rw [HS.out]; congr 1; omega⟩
              case measure => simp [intOf]; omega
            · have HL := Lib.hid (show lastM m fr (t + 1) = lastM m fr t by simp [lastM, hm])
              rw [hm] at cm'
              clear hm
              gi_wp2
              go_round
              case rel => exact ⟨t + 1, by omega, by omega, by have := HS.out; omega, by go_num, by rw [HL.out], by rw [HS.out]; congr 1; omega⟩
              case measure => simp [intOf]; omega
          · have hRe := Lib.hid (show Reach g br n fr t from ⟨ht1, ht2, ht3, fun _ => by simp only [preS]; omega⟩)
            have hne : ((t : Int) == (n : Int)) = false := by simp; omega
            have hne2 : (t == n) = false := by simp; omega
            have HLL := Lib.hid (lastM_lt m fr t)
            obtain ⟨la, hla⟩ : ∃ la, lastM m fr t = la := ⟨_, rfl⟩
            rw [hla] at HLL ⊢
            have HLA := Lib.hid hla
            clear hla
            have hgt : br - (preS g t - preS g fr) < g t := by omega
            have hl := HLL.out
            obtain ⟨fn, tmps, assign, body, hy, hR2⟩ := HY.out _ la Wd HJd.out (by omega)
            clear hfit
            by_cases hp : 0 ≤ la
            · have hl2 : la < 9223372036854775807 := by omega
              simp only [encR, hp, decide_true] at hy
              gi_wp2
              refine hR2.mono ?_
              rintro e W' (⟨rfl, hJ', hk'⟩ | ⟨rfl, hJx'⟩)
              · have HJ' := Lib.hid hJ'; have HK' := Lib.hid (keepR_t HKd.out hk')
                clear hJ' hk'
                gi_wp2
                go_roundw
                case rel => exact ⟨la.toNat + 1, _, .snoc HR.out hRe.out htn HLA.out hp, by congr 1; omega, HJ'.out, HK'.out⟩
                case measure => simp [intOf]; omega
              · have HJ' := Lib.hid hJx'
                clear hJx'
                gi_wp2
                refine bodyPost_ret (results_none rfl _ _ _) rfl ?_
                exact ⟨⟨_, rfl⟩, .inr ⟨_, ⟨pre, la, rfl, fun h => by omega⟩, HJ'.out⟩⟩
            · obtain rfl : la = -1 := by omega
              have HB := Lib.hid (show BrBad g m br n pre from ⟨fr, t, HR.out, hRe.out, htn, HLA.out⟩)
              simp only [encR, hp, decide_false] at hy
              clear hp
              gi_wp2
              refine hR2.mono ?_
              rintro e W' (⟨rfl, hJ', hk'⟩ | ⟨rfl, hJx'⟩)
              · have HJ' := Lib.hid hJ'
                clear hJ' hk'
                gi_wp2
                refine bodyPost_ret (results_none rfl _ _ _) rfl ?_
                exact ⟨⟨_, rfl⟩, .inl ⟨_, .inr ⟨pre, rfl, HB.out⟩, HJ'.out⟩⟩
              · have HJ' := Lib.hid hJx'
                clear hJx'
                gi_wp2
                refine bodyPost_ret (results_none rfl _ _ _) rfl ?_
                exact ⟨⟨_, rfl⟩, .inr ⟨_, ⟨pre, -1, rfl, fun _ => HB.out⟩, HJ'.out⟩⟩
        · obtain rfl : n = t := by omega
          gi_wp2
          refine bodyPost_ret (results_none rfl _ _ _) rfl ?_
          exact ⟨⟨_, rfl⟩, .inl ⟨pre, .inl ⟨fr, HR.out, ht1, ht2, ht3, fun h => absurd h (by omega)⟩, HJd.out⟩⟩
    · obtain rfl : n = fr := by omega
      gi_wp2
      go_end0
      exact ⟨⟨_, rfl⟩, .inl ⟨pre, .inl ⟨n, HR.out, Nat.le_refl _, Nat.le_refl _, by omega, fun h => absurd h (by omega)⟩, HJ.out⟩⟩
end Go.Proofs.YtiogfohjepobkaaDoor
