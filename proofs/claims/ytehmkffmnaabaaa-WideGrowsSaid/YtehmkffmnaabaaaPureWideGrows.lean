/-
  The pure statement of WideGrows: the printed function answers true at all arguments within their bounds. No condition.
-/
import Derived.Test.YtehmkffmnaabaaaQWideGrows
import Derived.Test.YtehmkffmnaabaaaWPlain
namespace Go.Proofs.Ytehmkffmnaabaaa.PWideGrows
open Go.RowKit
set_option linter.unusedVariables false
set_option linter.unusedSimpArgs false

theorem Add_f {a0 a1 b0 b1 : Int} (ha : WB a0 a1) (hb : WB b0 b1) : wide_Add.f a0 a1 b0 b1 = some (wans (wv a0 a1 + wv b0 b1)) := by
  obtain ⟨⟨p1, p2⟩, p3, p4⟩ := ha
  obtain ⟨⟨q1, q2⟩, q3, q4⟩ := hb
  have c0 : 0 ≤ add64Hi a1 b1 0 := by rw [add64_hi p3 q3 (by omega)]; omega
  have c1 : add64Hi a1 b1 0 ≤ 1 := by rw [add64_hi p3 q3 (by omega)]; omega
  have e : wv a0 a1 + wv b0 b1 = (a0 + b0 + add64Hi a1 b1 0) * 18446744073709551616 + add64Lo a1 b1 0 := by
    rw [add64_hi p3 q3 (by omega), add64_lo p3 q3 (by omega)]; unfold wv; omega
  have l0 : 0 ≤ add64Lo a1 b1 0 ∧ add64Lo a1 b1 0 ≤ 18446744073709551615 := by rw [add64_lo p3 q3 (by omega)]; omega
  unfold wide_Add.f
  rw [if_pos c1, e]
  generalize add64Hi a1 b1 0 = c at *
  generalize add64Lo a1 b1 0 = l at *
  simp only [u64_wrap]
  rw [add64_lo (by omega) (by omega) c0]
  have e2 : ((a0 + b0 + c) * 18446744073709551616 + l) / 18446744073709551616 = a0 + b0 + c := by omega
  have e3 : ((a0 + b0 + c) * 18446744073709551616 + l) % 18446744073709551616 = l := by omega
  have e4 : wrap64 ((a0 % 18446744073709551616 + b0 % 18446744073709551616 + c) % 18446744073709551616) = wrap64 (a0 + b0 + c) := by unfold wrap64; omega
  rw [e4]
  unfold wans
  rw [e2, e3]
  have w1 : -9223372036854775808 ≤ a0 + b0 + c ∧ a0 + b0 + c ≤ 9223372036854775807 → wrap64 (a0 + b0 + c) = a0 + b0 + c := by unfold wrap64; omega
  have w2 : a0 + b0 + c < -9223372036854775808 → 0 ≤ wrap64 (a0 + b0 + c) := by unfold wrap64; omega
  have w3 : 9223372036854775807 < a0 + b0 + c → wrap64 (a0 + b0 + c) < 0 := by unfold wrap64; omega
  generalize wrap64 (a0 + b0 + c) = z at *
  simp only [beq_iff_eq, bne_iff_ne, ne_eq, decide_eq_decide]
  (repeat' split) <;> first | rfl | omega | (rw [w1 (by omega)])

theorem Sub_f {a0 a1 b0 b1 : Int} (ha : WB a0 a1) (hb : WB b0 b1) : wide_Sub.f a0 a1 b0 b1 = some (wans (wv a0 a1 - wv b0 b1)) := by
  obtain ⟨⟨p1, p2⟩, p3, p4⟩ := ha
  obtain ⟨⟨q1, q2⟩, q3, q4⟩ := hb
  have c0 : 0 ≤ sub64Hi a1 b1 0 := by rw [sub64_hi ⟨p3, p4⟩ ⟨q3, q4⟩ (by omega)]; omega
  have c1 : sub64Hi a1 b1 0 ≤ 1 := by rw [sub64_hi ⟨p3, p4⟩ ⟨q3, q4⟩ (by omega)]; omega
  have e : wv a0 a1 - wv b0 b1 = (a0 - b0 - sub64Hi a1 b1 0) * 18446744073709551616 + sub64Lo a1 b1 0 := by
    rw [sub64_hi ⟨p3, p4⟩ ⟨q3, q4⟩ (by omega), sub64_lo p3 ⟨q3, q4⟩ (by omega)]; unfold wv; omega
  have l0 : 0 ≤ sub64Lo a1 b1 0 ∧ sub64Lo a1 b1 0 ≤ 18446744073709551615 := by rw [sub64_lo p3 ⟨q3, q4⟩ (by omega)]; omega
  unfold wide_Sub.f
  rw [if_pos c1, e]
  generalize sub64Hi a1 b1 0 = c at *
  generalize sub64Lo a1 b1 0 = l at *
  simp only [u64_wrap]
  rw [sub64_lo (by omega) (by omega) ⟨c0, c1⟩]
  have e2 : ((a0 - b0 - c) * 18446744073709551616 + l) / 18446744073709551616 = a0 - b0 - c := by omega
  have e3 : ((a0 - b0 - c) * 18446744073709551616 + l) % 18446744073709551616 = l := by omega
  have e4 : wrap64 ((a0 % 18446744073709551616 - b0 % 18446744073709551616 - c) % 18446744073709551616) = wrap64 (a0 - b0 - c) := by unfold wrap64; omega
  rw [e4]
  unfold wans
  rw [e2, e3]
  have w1 : -9223372036854775808 ≤ a0 - b0 - c ∧ a0 - b0 - c ≤ 9223372036854775807 → wrap64 (a0 - b0 - c) = a0 - b0 - c := by unfold wrap64; omega
  have w2 : a0 - b0 - c < -9223372036854775808 → 0 ≤ wrap64 (a0 - b0 - c) := by unfold wrap64; omega
  have w3 : 9223372036854775807 < a0 - b0 - c → wrap64 (a0 - b0 - c) < 0 := by unfold wrap64; omega
  generalize wrap64 (a0 - b0 - c) = z at *
  simp only [beq_iff_eq, bne_iff_ne, ne_eq, decide_eq_decide]
  (repeat' split) <;> first | rfl | omega | (rw [w1 (by omega)])

theorem WB_zero : WB 0 0 := by unfold WB; omega
theorem Neg_f {a0 a1 : Int} (ha : WB a0 a1) : wide_Neg.f a0 a1 = some (wans (-wv a0 a1)) := by
  unfold wide_Neg.f
  rw [Sub_f WB_zero ha, show wv 0 0 - wv a0 a1 = -wv a0 a1 from by unfold wv; omega]
  rfl
theorem Of_f {a : Int} (h : -9223372036854775808 ≤ a ∧ a ≤ 9223372036854775807) : wide_Of.f a = some (a / 18446744073709551616, a % 18446744073709551616) := by
  unfold wide_Of.f
  rw [u64_wrap, show a / 9223372036854775808 = a / 18446744073709551616 from by omega]
theorem WB_of {a : Int} (h : -9223372036854775808 ≤ a ∧ a ≤ 9223372036854775807) : WB (a / 18446744073709551616) (a % 18446744073709551616) := by unfold WB; omega
def cmpv (a b : Int) : Int := if a < b then -1 else if a = b then 0 else 1
theorem cmpv_cases (a b : Int) : (a < b ∧ cmpv a b = -1) ∨ (a = b ∧ cmpv a b = 0) ∨ (b < a ∧ cmpv a b = 1) := by
  unfold cmpv
  (repeat' split) <;> omega
theorem Cmp_f {a0 a1 b0 b1 : Int} (ha : WB a0 a1) (hb : WB b0 b1) : wide_Cmp.f a0 a1 b0 b1 = some (cmpv (wv a0 a1) (wv b0 b1)) := by
  obtain ⟨⟨p1, p2⟩, p3, p4⟩ := ha
  obtain ⟨⟨q1, q2⟩, q3, q4⟩ := hb
  unfold wide_Cmp.f cmpv wv
  simp only [Bool.and_eq_true, beq_iff_eq]
  (repeat' split) <;> first | rfl | omega
theorem awake_f : octroilaw01_awake.f = some true := by
  unfold octroilaw01_awake.f
  have h1 := Of_f (a := 1) (by omega)
  have h2 := Of_f (a := -1) (by omega)
  have h3 := Add_f (a0 := 0) (a1 := 18446744073709551615) (b0 := 0) (b1 := 1) (by unfold WB; omega) (by unfold WB; omega)
  have h4 := Neg_f (a0 := -9223372036854775808) (a1 := 0) (by unfold WB; omega)
  have h5 := Cmp_f (a0 := -1) (a1 := 18446744073709551615) (b0 := 0) (b1 := 1) (by unfold WB; omega) (by unfold WB; omega)
  simp only [h1, Option.bind_some]
  rw [show (1 : Int) / 18446744073709551616 = 0 from by decide, show (1 : Int) % 18446744073709551616 = 1 from by decide, h3]
  simp only [Option.bind_some]
  rw [h4]
  simp only [Option.bind_some, h2]
  rw [show (-1 : Int) / 18446744073709551616 = -1 from by decide, show (-1 : Int) % 18446744073709551616 = 18446744073709551615 from by decide, h5]
  decide

theorem WideGrows_pure : WideGrows.Pure := by
  intro a b c ha hb hc
  refine ⟨4, ?_⟩
  unfold octroilaw01_WideGrows.f
  rw [awake_f]
  simp only [Option.bind_some, if_true]
  rw [Cmp_f ha hb, Cmp_f hb ha]
  simp only [Option.bind_some]
  have e : (a.f0 == b.f0 && (a.f1 == b.f1)) = decide (wv a.f0 a.f1 = wv b.f0 b.f1) := by
    rw [Bool.eq_iff_iff]
    simp only [Bool.and_eq_true, beq_iff_eq, decide_eq_true_eq]
    exact ⟨fun h => by rw [h.1, h.2], fun h => wv_inj ha hb h⟩
  rw [e]
  have hab := cmpv_cases (wv a.f0 a.f1) (wv b.f0 b.f1)
  have hba := cmpv_cases (wv b.f0 b.f1) (wv a.f0 a.f1)
  have hbc := cmpv_cases (wv b.f0 b.f1) (wv c.f0 c.f1)
  have hac := cmpv_cases (wv a.f0 a.f1) (wv c.f0 c.f1)
  have key : octroilaw01_WideGrows.j0 4 (cmpv (wv a.f0 a.f1) (wv b.f0 b.f1)) false a.f0 a.f1 b.f0 b.f1 c.f0 c.f1 = some true := by
    have last : octroilaw01_WideGrows.j1 3 (cmpv (wv a.f0 a.f1) (wv b.f0 b.f1)) false a.f0 a.f1 b.f0 b.f1 c.f0 c.f1 = some true := by
      simp only [octroilaw01_WideGrows.j1, Bool.false_eq_true, if_false]
      rw [Add_f ha hc, Add_f hb hc]
      simp only [Option.bind_some]
      by_cases h1 : -170141183460469231731687303715884105728 ≤ wv a.f0 a.f1 + wv c.f0 c.f1 ∧ wv a.f0 a.f1 + wv c.f0 c.f1 ≤ 170141183460469231731687303715884105727
      · by_cases h2 : -170141183460469231731687303715884105728 ≤ wv b.f0 b.f1 + wv c.f0 c.f1 ∧ wv b.f0 b.f1 + wv c.f0 c.f1 ≤ 170141183460469231731687303715884105727
        · rw [Cmp_f (wans_WB _) (wans_WB _)]
          rw [wans_in h1, wans_in h2]
          simp only [if_true, Option.bind_some, wv_of]
          have h3 := cmpv_cases (wv a.f0 a.f1 + wv c.f0 c.f1) (wv b.f0 b.f1 + wv c.f0 c.f1)
          congr 1
          rw [beq_iff_eq]
          omega
        · rw [wans_out h2]
          simp
      · rw [wans_out h1]
        simp
    simp only [octroilaw01_WideGrows.j0, Bool.false_eq_true, if_false]
    rw [Cmp_f hb hc, Cmp_f ha hc]
    simp only [Option.bind_some]
    split
    · split
      · rw [show decide (cmpv (wv a.f0 a.f1) (wv c.f0 c.f1) > 0) = false from by rw [decide_eq_false_iff_not]; omega]
        exact last
      · exact last
    · exact last
  rw [if_pos (by unfold wrap64; omega)]
  rw [show ((cmpv (wv a.f0 a.f1) (wv b.f0 b.f1) == 0) != decide (wv a.f0 a.f1 = wv b.f0 b.f1)) = false from by
    rw [bne_eq_false_iff_eq, Bool.eq_iff_iff, beq_iff_eq, decide_eq_true_eq]; omega]
  exact key

end Go.Proofs.Ytehmkffmnaabaaa.PWideGrows
