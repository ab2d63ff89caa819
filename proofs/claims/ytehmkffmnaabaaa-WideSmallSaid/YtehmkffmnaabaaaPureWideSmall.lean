/-
  The pure statement of WideSmall: the printed function answers true at all arguments within their bounds. No condition.
-/
import Derived.Test.YtehmkffmnaabaaaQWideSmall
import Derived.Test.YtehmkffmnaabaaaWPlain
namespace Go.Proofs.Ytehmkffmnaabaaa.PWideSmall
open Go.RowKit
set_option linter.unusedVariables false
set_option linter.unusedSimpArgs false

theorem Add_f {a0 a1 b0 b1 : Int} (ha : WB a0 a1) (hb : WB b0 b1) : wide_Add.f a0 a1 b0 b1 = some (wans (wv a0 a1 + wv b0 b1)) := by
  obtain ⟨⟨p1, p2⟩, p3, p4⟩ := ha
  obtain ⟨⟨q1, q2⟩, q3, q4⟩ := hb
  have c0 : 0 ≤ add64Hi a1 b1 0 := by rw [add64_hi p3 q3 (by omega)]; omega
  have c1 : add64Hi a1 b1 0 ≤ 1 := by rw [add64_hi p3 q3 (by omega)]; omega
  have e : wv a0 a1 + wv b0 b1 = (a0 + b0 + add64Hi a1 b1 0) * 18446744073709551616 + add64Lo a1 b1 0 := by
    rw [add64_hi p3 q3 (by omega), add64_lo p3 q3 (by omega)]; unfold wv; omega
  have l0 : 0 ≤ add64Lo a1 b1 0 ∧ add64Lo a1 b1 0 ≤ 18446744073709551615 := by rw [add64_lo p3 q3 (by omega)]; omega
  unfold wide_Add.f
  rw [if_pos c1, e]
  generalize add64Hi a1 b1 0 = c at *
  generalize add64Lo a1 b1 0 = l at *
  simp only [u64_wrap]
  rw [add64_lo (by omega) (by omega) c0]
  have e2 : ((a0 + b0 + c) * 18446744073709551616 + l) / 18446744073709551616 = a0 + b0 + c := by omega
  have e3 : ((a0 + b0 + c) * 18446744073709551616 + l) % 18446744073709551616 = l := by omega
  have e4 : wrap64 ((a0 % 18446744073709551616 + b0 % 18446744073709551616 + c) % 18446744073709551616) = wrap64 (a0 + b0 + c) := by unfold wrap64; omega
  rw [e4]
  unfold wans
  rw [e2, e3]
  have w1 : -9223372036854775808 ≤ a0 + b0 + c ∧ a0 + b0 + c ≤ 9223372036854775807 → wrap64 (a0 + b0 + c) = a0 + b0 + c := by unfold wrap64; omega
  have w2 : a0 + b0 + c < -9223372036854775808 → 0 ≤ wrap64 (a0 + b0 + c) := by unfold wrap64; omega
  have w3 : 9223372036854775807 < a0 + b0 + c → wrap64 (a0 + b0 + c) < 0 := by unfold wrap64; omega
  generalize wrap64 (a0 + b0 + c) = z at *
  simp only [beq_iff_eq, bne_iff_ne, ne_eq, decide_eq_decide]
  (repeat' split) <;> first | rfl | omega | (rw [w1 (by omega)])

theorem Sub_f {a0 a1 b0 b1 : Int} (ha : WB a0 a1) (hb : WB b0 b1) : wide_Sub.f a0 a1 b0 b1 = some (wans (wv a0 a1 - wv b0 b1)) := by
  obtain ⟨⟨p1, p2⟩, p3, p4⟩ := ha
  obtain ⟨⟨q1, q2⟩, q3, q4⟩ := hb
  have c0 : 0 ≤ sub64Hi a1 b1 0 := by rw [sub64_hi ⟨p3, p4⟩ ⟨q3, q4⟩ (by omega)]; omega
  have c1 : sub64Hi a1 b1 0 ≤ 1 := by rw [sub64_hi ⟨p3, p4⟩ ⟨q3, q4⟩ (by omega)]; omega
  have e : wv a0 a1 - wv b0 b1 = (a0 - b0 - sub64Hi a1 b1 0) * 18446744073709551616 + sub64Lo a1 b1 0 := by
    rw [sub64_hi ⟨p3, p4⟩ ⟨q3, q4⟩ (by omega), sub64_lo p3 ⟨q3, q4⟩ (by omega)]; unfold wv; omega
  have l0 : 0 ≤ sub64Lo a1 b1 0 ∧ sub64Lo a1 b1 0 ≤ 18446744073709551615 := by rw [sub64_lo p3 ⟨q3, q4⟩ (by omega)]; omega
  unfold wide_Sub.f
  rw [if_pos c1, e]
  generalize sub64Hi a1 b1 0 = c at *
  generalize sub64Lo a1 b1 0 = l at *
  simp only [u64_wrap]
  rw [sub64_lo (by omega) (by omega) ⟨c0, c1⟩]
  have e2 : ((a0 - b0 - c) * 18446744073709551616 + l) / 18446744073709551616 = a0 - b0 - c := by omega
  have e3 : ((a0 - b0 - c) * 18446744073709551616 + l) % 18446744073709551616 = l := by omega
  have e4 : wrap64 ((a0 % 18446744073709551616 - b0 % 18446744073709551616 - c) % 18446744073709551616) = wrap64 (a0 - b0 - c) := by unfold wrap64; omega
  rw [e4]
  unfold wans
  rw [e2, e3]
  have w1 : -9223372036854775808 ≤ a0 - b0 - c ∧ a0 - b0 - c ≤ 9223372036854775807 → wrap64 (a0 - b0 - c) = a0 - b0 - c := by unfold wrap64; omega
  have w2 : a0 - b0 - c < -9223372036854775808 → 0 ≤ wrap64 (a0 - b0 - c) := by unfold wrap64; omega
  have w3 : 9223372036854775807 < a0 - b0 - c → wrap64 (a0 - b0 - c) < 0 := by unfold wrap64; omega
  generalize wrap64 (a0 - b0 - c) = z at *
  simp only [beq_iff_eq, bne_iff_ne, ne_eq, decide_eq_decide]
  (repeat' split) <;> first | rfl | omega | (rw [w1 (by omega)])

theorem WB_zero : WB 0 0 := by unfold WB; omega
theorem Neg_f {a0 a1 : Int} (ha : WB a0 a1) : wide_Neg.f a0 a1 = some (wans (-wv a0 a1)) := by
  unfold wide_Neg.f
  rw [Sub_f WB_zero ha, show wv 0 0 - wv a0 a1 = -wv a0 a1 from by unfold wv; omega]
  rfl
theorem Of_f {a : Int} (h : -9223372036854775808 ≤ a ∧ a ≤ 9223372036854775807) : wide_Of.f a = some (a / 18446744073709551616, a % 18446744073709551616) := by
  unfold wide_Of.f
  rw [u64_wrap, show a / 9223372036854775808 = a / 18446744073709551616 from by omega]
theorem WB_of {a : Int} (h : -9223372036854775808 ≤ a ∧ a ≤ 9223372036854775807) : WB (a / 18446744073709551616) (a % 18446744073709551616) := by unfold WB; omega
def cmpv (a b : Int) : Int := if a < b then -1 else if a = b then 0 else 1
theorem cmpv_cases (a b : Int) : (a < b ∧ cmpv a b = -1) ∨ (a = b ∧ cmpv a b = 0) ∨ (b < a ∧ cmpv a b = 1) := by
  unfold cmpv
  (repeat' split) <;> omega
theorem Cmp_f {a0 a1 b0 b1 : Int} (ha : WB a0 a1) (hb : WB b0 b1) : wide_Cmp.f a0 a1 b0 b1 = some (cmpv (wv a0 a1) (wv b0 b1)) := by
  obtain ⟨⟨p1, p2⟩, p3, p4⟩ := ha
  obtain ⟨⟨q1, q2⟩, q3, q4⟩ := hb
  unfold wide_Cmp.f cmpv wv
  simp only [Bool.and_eq_true, beq_iff_eq]
  (repeat' split) <;> first | rfl | omega
theorem awake_f : octroilaw01_awake.f = some true := by
  unfold octroilaw01_awake.f
  have h1 := Of_f (a := 1) (by omega)
  have h2 := Of_f (a := -1) (by omega)
  have h3 := Add_f (a0 := 0) (a1 := 18446744073709551615) (b0 := 0) (b1 := 1) (by unfold WB; omega) (by unfold WB; omega)
  have h4 := Neg_f (a0 := -9223372036854775808) (a1 := 0) (by unfold WB; omega)
  have h5 := Cmp_f (a0 := -1) (a1 := 18446744073709551615) (b0 := 0) (b1 := 1) (by unfold WB; omega) (by unfold WB; omega)
  simp only [h1, Option.bind_some]
  rw [show (1 : Int) / 18446744073709551616 = 0 from by decide, show (1 : Int) % 18446744073709551616 = 1 from by decide, h3]
  simp only [Option.bind_some]
  rw [h4]
  simp only [Option.bind_some, h2]
  rw [show (-1 : Int) / 18446744073709551616 = -1 from by decide, show (-1 : Int) % 18446744073709551616 = 18446744073709551615 from by decide, h5]
  decide

theorem Int_f {a0 a1 : Int} (ha : WB a0 a1) : wide_Int.f a0 a1 = some (if -9223372036854775808 ≤ wv a0 a1 ∧ wv a0 a1 ≤ 9223372036854775807 then (wv a0 a1, true) else (0, false)) := by
  unfold WB at ha
  unfold wide_Int.f
  have e1 : (a0 = wrap64 a1 / 9223372036854775808) ↔ (-9223372036854775808 ≤ wv a0 a1 ∧ wv a0 a1 ≤ 9223372036854775807) := by
    unfold wrap64 wv; omega
  by_cases h : -9223372036854775808 ≤ wv a0 a1 ∧ wv a0 a1 ≤ 9223372036854775807
  · rw [if_pos h, if_pos (e1.2 h), show wrap64 a1 = wv a0 a1 from by have := e1.2 h; unfold wrap64 at *; unfold wv at *; omega]
  · rw [if_neg h, if_neg (fun h' => h (e1.1 h'))]

theorem half_in {a : Int} (ha : -9223372036854775808 ≤ a ∧ a ≤ 9223372036854775807) : -4611686018427387904 ≤ wrap64 (Int.tdiv a 2) ∧ wrap64 (Int.tdiv a 2) ≤ 4611686018427387903 := by
  have : Int.tdiv a 2 = if 0 ≤ a then a / 2 else -(-a / 2) := by
    split
    · rw [Int.tdiv_eq_ediv_of_nonneg (by omega)]
    · have h := Int.neg_tdiv (a := -a) (b := 2)
      rw [Int.neg_neg] at h
      rw [h, Int.tdiv_eq_ediv_of_nonneg (by omega)]
  rw [this]
  unfold wrap64
  split <;> omega
theorem small_j0 (x y z : Int) (hx : -4611686018427387904 ≤ x ∧ x ≤ 4611686018427387903) (hy : -4611686018427387904 ≤ y ∧ y ≤ 4611686018427387903) (hz : x < y ∧ z = -1 ∨ ¬ x < y ∧ z = 0) (k : Nat) :
    octroilaw01_WideSmall.j0 (k + 1) x y 0 0 (x + y) true (x - y) true z = some true := by
  have wx : WB (x / 18446744073709551616) (x % 18446744073709551616) := WB_of (by omega)
  have wy : WB (y / 18446744073709551616) (y % 18446744073709551616) := WB_of (by omega)
  have e1 : wrap64 (x + y) = x + y := by unfold wrap64; omega
  have e2 : wrap64 (x - y) = x - y := by unfold wrap64; omega
  have hc := cmpv_cases x y
  rw [octroilaw01_WideSmall.j0]
  simp only [if_true, e1, e2, Of_f (a := x) (by omega), Of_f (a := y) (by omega), Option.bind_some]
  rw [Cmp_f wx wy]
  simp only [Option.bind_some, wv_of]
  split
  · congr 1
    rw [beq_iff_eq]
    omega
  · congr 1
    rw [beq_iff_eq]
    omega

theorem small_main (x y : Int) (hx : -4611686018427387904 ≤ x ∧ x ≤ 4611686018427387903) (hy : -4611686018427387904 ≤ y ∧ y ≤ 4611686018427387903) (k : Nat) :
    ((wide_Of.f x).bind fun bt136 => ((wide_Of.f y).bind fun bt138 => ((wide_Add.f bt136.1 bt136.2 bt138.1 bt138.2).bind fun bt140 => ((wide_Of.f x).bind fun bt144 => ((wide_Of.f y).bind fun bt146 => ((wide_Sub.f bt144.1 bt144.2 bt146.1 bt146.2).bind fun bt148 => ((wide_Int.f bt140.1 bt140.2.1).bind fun bt152 => ((wide_Int.f bt148.1 bt148.2.1).bind fun bt154 => (if x < y then (octroilaw01_WideSmall.j0 (k + 1) x y bt140.2.2 bt148.2.2 bt152.1 bt152.2 bt154.1 bt154.2 (-1)) else (octroilaw01_WideSmall.j0 (k + 1) x y bt140.2.2 bt148.2.2 bt152.1 bt152.2 bt154.1 bt154.2 0))))))))))
     = some true := by
  have wx : WB (x / 18446744073709551616) (x % 18446744073709551616) := WB_of (by omega)
  have wy : WB (y / 18446744073709551616) (y % 18446744073709551616) := WB_of (by omega)
  simp only [Of_f (a := x) (by omega), Of_f (a := y) (by omega), Option.bind_some]
  rw [Add_f wx wy, Sub_f wx wy]
  simp only [Option.bind_some, wv_of]
  rw [Int_f (wans_WB _), Int_f (wans_WB _)]
  rw [wans_in (v := x + y) (by omega), wans_in (v := x - y) (by omega)]
  simp only [Option.bind_some, wv_of]
  rw [if_pos (by omega : -9223372036854775808 ≤ x + y ∧ x + y ≤ 9223372036854775807), if_pos (by omega : -9223372036854775808 ≤ x - y ∧ x - y ≤ 9223372036854775807)]
  dsimp only
  split
  · exact small_j0 x y _ hx hy (.inl ⟨by assumption, rfl⟩) k
  · exact small_j0 x y _ hx hy (.inr ⟨by assumption, rfl⟩) k

theorem WideSmall_pure : WideSmall.Pure := by
  intro a b ha hb
  refine ⟨0 + 1, ?_⟩
  unfold octroilaw01_WideSmall.f
  rw [awake_f, Option.bind_some, if_pos rfl]
  exact small_main _ _ (half_in ha) (half_in hb) 0

end Go.Proofs.Ytehmkffmnaabaaa.PWideSmall
