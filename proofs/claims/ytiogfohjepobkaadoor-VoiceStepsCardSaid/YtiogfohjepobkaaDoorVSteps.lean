/-
  The law VoiceSteps.
-/
import Derived.Test.YtiogfohjepobkaaDoorVSteps1
import Derived.Test.YtiogfohjepobkaaDoorVSteps2
import Derived.Test.YtiogfohjepobkaaDoorVSteps3
import Derived.Test.YtiogfohjepobkaaDoorVSteps4
import Derived.Test.YtiogfohjepobkaaDoorVSteps5
import Derived.Test.YtiogfohjepobkaaDoorVSteps6
namespace Go.Proofs.YtiogfohjepobkaaDoor
open Go.RowKit

theorem vsteps_law (l0 l1 l2 l3 l4 l5 h0 h1 h2 h3 h4 h5 st br x0 x1 x2 x3 x4 x5 y0 y1 y2 y3 y4 y5 z0 z1 z2 z3 z4 z5 more : Int) (w : World) (hP : Primes w) (hL : Logs w) :
    Calls Tryd.prog 5 #[.agg #[.int .i64 l0, .int .i64 l1, .int .i64 l2, .int .i64 l3, .int .i64 l4, .int .i64 l5, .int .i64 h0, .int .i64 h1, .int .i64 h2, .int .i64 h3, .int .i64 h4, .int .i64 h5, .int .i64 st, .int .i64 br], .agg #[.int .i64 x0, .int .i64 x1, .int .i64 x2, .int .i64 x3, .int .i64 x4, .int .i64 x5], .agg #[.int .i64 y0, .int .i64 y1, .int .i64 y2, .int .i64 y3, .int .i64 y4, .int .i64 y5], .agg #[.int .i64 z0, .int .i64 z1, .int .i64 z2, .int .i64 z3, .int .i64 z4, .int .i64 z5], .int .i64 more] w fun e w' => e = .returned (.bool true) ∧ Gr w w' := by
  rcases tf (voiceOk ⟨l0, l1, l2, l3, l4, l5⟩ ⟨h0, h1, h2, h3, h4, h5⟩ st br) with q1 | q1
  · rcases tf (allIn ⟨x0, x1, x2, x3, x4, x5⟩ 48 6) with q2 | q2
    · rcases tf (allIn ⟨y0, y1, y2, y3, y4, y5⟩ 48 6) with q3 | q3
      · by_cases hm : 0 ≤ more ∧ more ≤ 2400000 ∧ st + more ≤ 2400000
        · obtain ⟨m0, m1, m2⟩ := hm
          rcases tf (findsB st ⟨x0, x1, x2, x3, x4, x5⟩ ⟨y0, y1, y2, y3, y4, y5⟩) with ha | ha
          · have hc := finds_more (st' := st + more) (by omega) ha
            rcases tf (allIn ⟨z0, z1, z2, z3, z4, z5⟩ 48 6) with q4 | q4
            · rcases tf (findsB more ⟨y0, y1, y2, y3, y4, y5⟩ ⟨z0, z1, z2, z3, z4, z5⟩) with hd | hd
              · exact vsteps_c2tttt l0 l1 l2 l3 l4 l5 h0 h1 h2 h3 h4 h5 st br x0 x1 x2 x3 x4 x5 y0 y1 y2 y3 y4 y5 z0 z1 z2 z3 z4 z5 more w hP hL q1 q2 q3 m0 m1 m2 ha hc q4 hd (finds_tri ha hd)
              · rcases tf (findsB (st + more) ⟨x0, x1, x2, x3, x4, x5⟩ ⟨z0, z1, z2, z3, z4, z5⟩) with hl | hl
                · exact vsteps_c2ttft l0 l1 l2 l3 l4 l5 h0 h1 h2 h3 h4 h5 st br x0 x1 x2 x3 x4 x5 y0 y1 y2 y3 y4 y5 z0 z1 z2 z3 z4 z5 more w hP hL q1 q2 q3 m0 m1 m2 ha hc q4 hd hl
                · exact vsteps_c2ttff l0 l1 l2 l3 l4 l5 h0 h1 h2 h3 h4 h5 st br x0 x1 x2 x3 x4 x5 y0 y1 y2 y3 y4 y5 z0 z1 z2 z3 z4 z5 more w hP hL q1 q2 q3 m0 m1 m2 ha hc q4 hd hl
            · exact vsteps_c1tt l0 l1 l2 l3 l4 l5 h0 h1 h2 h3 h4 h5 st br x0 x1 x2 x3 x4 x5 y0 y1 y2 y3 y4 y5 z0 z1 z2 z3 z4 z5 more w hP hL q1 q2 q3 m0 m1 m2 ha hc q4
          · rcases tf (findsB (st + more) ⟨x0, x1, x2, x3, x4, x5⟩ ⟨y0, y1, y2, y3, y4, y5⟩) with hc | hc
            · rcases tf (allIn ⟨z0, z1, z2, z3, z4, z5⟩ 48 6) with q4 | q4
              · rcases tf (findsB more ⟨y0, y1, y2, y3, y4, y5⟩ ⟨z0, z1, z2, z3, z4, z5⟩) with hd | hd <;> rcases tf (findsB (st + more) ⟨x0, x1, x2, x3, x4, x5⟩ ⟨z0, z1, z2, z3, z4, z5⟩) with hl | hl
                · exact vsteps_c2fttt l0 l1 l2 l3 l4 l5 h0 h1 h2 h3 h4 h5 st br x0 x1 x2 x3 x4 x5 y0 y1 y2 y3 y4 y5 z0 z1 z2 z3 z4 z5 more w hP hL q1 q2 q3 m0 m1 m2 ha hc q4 hd hl
                · exact vsteps_c2fttf l0 l1 l2 l3 l4 l5 h0 h1 h2 h3 h4 h5 st br x0 x1 x2 x3 x4 x5 y0 y1 y2 y3 y4 y5 z0 z1 z2 z3 z4 z5 more w hP hL q1 q2 q3 m0 m1 m2 ha hc q4 hd hl
                · exact vsteps_c2ftft l0 l1 l2 l3 l4 l5 h0 h1 h2 h3 h4 h5 st br x0 x1 x2 x3 x4 x5 y0 y1 y2 y3 y4 y5 z0 z1 z2 z3 z4 z5 more w hP hL q1 q2 q3 m0 m1 m2 ha hc q4 hd hl
                · exact vsteps_c2ftff l0 l1 l2 l3 l4 l5 h0 h1 h2 h3 h4 h5 st br x0 x1 x2 x3 x4 x5 y0 y1 y2 y3 y4 y5 z0 z1 z2 z3 z4 z5 more w hP hL q1 q2 q3 m0 m1 m2 ha hc q4 hd hl
              · exact vsteps_c1ft l0 l1 l2 l3 l4 l5 h0 h1 h2 h3 h4 h5 st br x0 x1 x2 x3 x4 x5 y0 y1 y2 y3 y4 y5 z0 z1 z2 z3 z4 z5 more w hP hL q1 q2 q3 m0 m1 m2 ha hc q4
            · rcases tf (allIn ⟨z0, z1, z2, z3, z4, z5⟩ 48 6) with q4 | q4
              · rcases tf (findsB more ⟨y0, y1, y2, y3, y4, y5⟩ ⟨z0, z1, z2, z3, z4, z5⟩) with hd | hd <;> rcases tf (findsB (st + more) ⟨x0, x1, x2, x3, x4, x5⟩ ⟨z0, z1, z2, z3, z4, z5⟩) with hl | hl
                · exact vsteps_c2fftt l0 l1 l2 l3 l4 l5 h0 h1 h2 h3 h4 h5 st br x0 x1 x2 x3 x4 x5 y0 y1 y2 y3 y4 y5 z0 z1 z2 z3 z4 z5 more w hP hL q1 q2 q3 m0 m1 m2 ha hc q4 hd hl
                · exact vsteps_c2fftf l0 l1 l2 l3 l4 l5 h0 h1 h2 h3 h4 h5 st br x0 x1 x2 x3 x4 x5 y0 y1 y2 y3 y4 y5 z0 z1 z2 z3 z4 z5 more w hP hL q1 q2 q3 m0 m1 m2 ha hc q4 hd hl
                · exact vsteps_c2ffft l0 l1 l2 l3 l4 l5 h0 h1 h2 h3 h4 h5 st br x0 x1 x2 x3 x4 x5 y0 y1 y2 y3 y4 y5 z0 z1 z2 z3 z4 z5 more w hP hL q1 q2 q3 m0 m1 m2 ha hc q4 hd hl
                · exact vsteps_c2ffff l0 l1 l2 l3 l4 l5 h0 h1 h2 h3 h4 h5 st br x0 x1 x2 x3 x4 x5 y0 y1 y2 y3 y4 y5 z0 z1 z2 z3 z4 z5 more w hP hL q1 q2 q3 m0 m1 m2 ha hc q4 hd hl
              · exact vsteps_c1ff l0 l1 l2 l3 l4 l5 h0 h1 h2 h3 h4 h5 st br x0 x1 x2 x3 x4 x5 y0 y1 y2 y3 y4 y5 z0 z1 z2 z3 z4 z5 more w hP hL q1 q2 q3 m0 m1 m2 ha hc q4
        · have hs := voiceOk_parts q1
          rcases (by omega : more < 0 ∨ (0 ≤ more ∧ 2400000 < more) ∨ (0 ≤ more ∧ more ≤ 2400000 ∧ 2400000 < st + more)) with h | h | h <;> rcases tf (findsB st ⟨x0, x1, x2, x3, x4, x5⟩ ⟨y0, y1, y2, y3, y4, y5⟩) with ha | ha
          · exact vsteps_b0t l0 l1 l2 l3 l4 l5 h0 h1 h2 h3 h4 h5 st br x0 x1 x2 x3 x4 x5 y0 y1 y2 y3 y4 y5 z0 z1 z2 z3 z4 z5 more w hP hL q1 q2 q3 ha h
          · exact vsteps_b0f l0 l1 l2 l3 l4 l5 h0 h1 h2 h3 h4 h5 st br x0 x1 x2 x3 x4 x5 y0 y1 y2 y3 y4 y5 z0 z1 z2 z3 z4 z5 more w hP hL q1 q2 q3 ha h
          · exact vsteps_b1t l0 l1 l2 l3 l4 l5 h0 h1 h2 h3 h4 h5 st br x0 x1 x2 x3 x4 x5 y0 y1 y2 y3 y4 y5 z0 z1 z2 z3 z4 z5 more w hP hL q1 q2 q3 ha h
          · exact vsteps_b1f l0 l1 l2 l3 l4 l5 h0 h1 h2 h3 h4 h5 st br x0 x1 x2 x3 x4 x5 y0 y1 y2 y3 y4 y5 z0 z1 z2 z3 z4 z5 more w hP hL q1 q2 q3 ha h
          · exact vsteps_b2t l0 l1 l2 l3 l4 l5 h0 h1 h2 h3 h4 h5 st br x0 x1 x2 x3 x4 x5 y0 y1 y2 y3 y4 y5 z0 z1 z2 z3 z4 z5 more w hP hL q1 q2 q3 ha h
          · exact vsteps_b2f l0 l1 l2 l3 l4 l5 h0 h1 h2 h3 h4 h5 st br x0 x1 x2 x3 x4 x5 y0 y1 y2 y3 y4 y5 z0 z1 z2 z3 z4 z5 more w hP hL q1 q2 q3 ha h
      · exact vsteps_a1 l0 l1 l2 l3 l4 l5 h0 h1 h2 h3 h4 h5 st br x0 x1 x2 x3 x4 x5 y0 y1 y2 y3 y4 y5 z0 z1 z2 z3 z4 z5 more w hP hL q1 q2 q3
    · exact vsteps_a2 l0 l1 l2 l3 l4 l5 h0 h1 h2 h3 h4 h5 st br x0 x1 x2 x3 x4 x5 y0 y1 y2 y3 y4 y5 z0 z1 z2 z3 z4 z5 more w hP hL (by rw [q2, Bool.and_false])
  · exact vsteps_a2 l0 l1 l2 l3 l4 l5 h0 h1 h2 h3 h4 h5 st br x0 x1 x2 x3 x4 x5 y0 y1 y2 y3 y4 y5 z0 z1 z2 z3 z4 z5 more w hP hL (by rw [q1, Bool.false_and])
end Go.Proofs.YtiogfohjepobkaaDoor
