/-
  The pure statement of WideHalves: the printed function answers true at all arguments within their bounds. No condition.
-/
import Derived.Test.YtehmkffmnaabaaaQWideHalves
import Derived.Test.YtehmkffmnaabaaaWPlain
namespace Go.Proofs.Ytehmkffmnaabaaa.PWideHalves
open Go.RowKit
set_option linter.unusedVariables false
set_option linter.unusedSimpArgs false

theorem Add_f {a0 a1 b0 b1 : Int} (ha : WB a0 a1) (hb : WB b0 b1) : wide_Add.f a0 a1 b0 b1 = some (wans (wv a0 a1 + wv b0 b1)) := by
  obtain ⟨⟨p1, p2⟩, p3, p4⟩ := ha
  obtain ⟨⟨q1, q2⟩, q3, q4⟩ := hb
  have c0 : 0 ≤ add64Hi a1 b1 0 := by rw [add64_hi p3 q3 (by omega)]; omega
  have c1 : add64Hi a1 b1 0 ≤ 1 := by rw [add64_hi p3 q3 (by omega)]; omega
  have e : wv a0 a1 + wv b0 b1 = (a0 + b0 + add64Hi a1 b1 0) * 18446744073709551616 + add64Lo a1 b1 0 := by
    rw [add64_hi p3 q3 (by omega), add64_lo p3 q3 (by omega)]; unfold wv; omega
  have l0 : 0 ≤ add64Lo a1 b1 0 ∧ add64Lo a1 b1 0 ≤ 18446744073709551615 := by rw [add64_lo p3 q3 (by omega)]; omega
  unfold wide_Add.f
  rw [if_pos c1, e]
  generalize add64Hi a1 b1 0 = c at *
  generalize add64Lo a1 b1 0 = l at *
  simp only [u64_wrap]
  rw [add64_lo (by omega) (by omega) c0]
  have e2 : ((a0 + b0 + c) * 18446744073709551616 + l) / 18446744073709551616 = a0 + b0 + c := by omega
  have e3 : ((a0 + b0 + c) * 18446744073709551616 + l) % 18446744073709551616 = l := by omega
  have e4 : wrap64 ((a0 % 18446744073709551616 + b0 % 18446744073709551616 + c) % 18446744073709551616) = wrap64 (a0 + b0 + c) := by unfold wrap64; omega
  rw [e4]
  unfold wans
  rw [e2, e3]
  have w1 : -9223372036854775808 ≤ a0 + b0 + c ∧ a0 + b0 + c ≤ 9223372036854775807 → wrap64 (a0 + b0 + c) = a0 + b0 + c := by unfold wrap64; omega
  have w2 : a0 + b0 + c < -9223372036854775808 → 0 ≤ wrap64 (a0 + b0 + c) := by unfold wrap64; omega
  have w3 : 9223372036854775807 < a0 + b0 + c → wrap64 (a0 + b0 + c) < 0 := by unfold wrap64; omega
  generalize wrap64 (a0 + b0 + c) = z at *
  simp only [beq_iff_eq, bne_iff_ne, ne_eq, decide_eq_decide]
  (repeat' split) <;> first | rfl | omega | (rw [w1 (by omega)])

theorem Sub_f {a0 a1 b0 b1 : Int} (ha : WB a0 a1) (hb : WB b0 b1) : wide_Sub.f a0 a1 b0 b1 = some (wans (wv a0 a1 - wv b0 b1)) := by
  obtain ⟨⟨p1, p2⟩, p3, p4⟩ := ha
  obtain ⟨⟨q1, q2⟩, q3, q4⟩ := hb
  have c0 : 0 ≤ sub64Hi a1 b1 0 := by rw [sub64_hi ⟨p3, p4⟩ ⟨q3, q4⟩ (by omega)]; omega
  have c1 : sub64Hi a1 b1 0 ≤ 1 := by rw [sub64_hi ⟨p3, p4⟩ ⟨q3, q4⟩ (by omega)]; omega
  have e : wv a0 a1 - wv b0 b1 = (a0 - b0 - sub64Hi a1 b1 0) * 18446744073709551616 + sub64Lo a1 b1 0 := by
    rw [sub64_hi ⟨p3, p4⟩ ⟨q3, q4⟩ (by omega), sub64_lo p3 ⟨q3, q4⟩ (by omega)]; unfold wv; omega
  have l0 : 0 ≤ sub64Lo a1 b1 0 ∧ sub64Lo a1 b1 0 ≤ 18446744073709551615 := by rw [sub64_lo p3 ⟨q3, q4⟩ (by omega)]; omega
  unfold wide_Sub.f
  rw [if_pos c1, e]
  generalize sub64Hi a1 b1 0 = c at *
  generalize sub64Lo a1 b1 0 = l at *
  simp only [u64_wrap]
  rw [sub64_lo (by omega) (by omega) ⟨c0, c1⟩]
  have e2 : ((a0 - b0 - c) * 18446744073709551616 + l) / 18446744073709551616 = a0 - b0 - c := by omega
  have e3 : ((a0 - b0 - c) * 18446744073709551616 + l) % 18446744073709551616 = l := by omega
  have e4 : wrap64 ((a0 % 18446744073709551616 - b0 % 18446744073709551616 - c) % 18446744073709551616) = wrap64 (a0 - b0 - c) := by unfold wrap64; omega
  rw [e4]
  unfold wans
  rw [e2, e3]
  have w1 : -9223372036854775808 ≤ a0 - b0 - c ∧ a0 - b0 - c ≤ 9223372036854775807 → wrap64 (a0 - b0 - c) = a0 - b0 - c := by unfold wrap64; omega
  have w2 : a0 - b0 - c < -9223372036854775808 → 0 ≤ wrap64 (a0 - b0 - c) := by unfold wrap64; omega
  have w3 : 9223372036854775807 < a0 - b0 - c → wrap64 (a0 - b0 - c) < 0 := by unfold wrap64; omega
  generalize wrap64 (a0 - b0 - c) = z at *
  simp only [beq_iff_eq, bne_iff_ne, ne_eq, decide_eq_decide]
  (repeat' split) <;> first | rfl | omega | (rw [w1 (by omega)])

theorem WB_zero : WB 0 0 := by unfold WB; omega
theorem Neg_f {a0 a1 : Int} (ha : WB a0 a1) : wide_Neg.f a0 a1 = some (wans (-wv a0 a1)) := by
  unfold wide_Neg.f
  rw [Sub_f WB_zero ha, show wv 0 0 - wv a0 a1 = -wv a0 a1 from by unfold wv; omega]
  rfl
theorem Of_f {a : Int} (h : -9223372036854775808 ≤ a ∧ a ≤ 9223372036854775807) : wide_Of.f a = some (a / 18446744073709551616, a % 18446744073709551616) := by
  unfold wide_Of.f
  rw [u64_wrap, show a / 9223372036854775808 = a / 18446744073709551616 from by omega]
theorem WB_of {a : Int} (h : -9223372036854775808 ≤ a ∧ a ≤ 9223372036854775807) : WB (a / 18446744073709551616) (a % 18446744073709551616) := by unfold WB; omega
def cmpv (a b : Int) : Int := if a < b then -1 else if a = b then 0 else 1
theorem cmpv_cases (a b : Int) : (a < b ∧ cmpv a b = -1) ∨ (a = b ∧ cmpv a b = 0) ∨ (b < a ∧ cmpv a b = 1) := by
  unfold cmpv
  (repeat' split) <;> omega
theorem Cmp_f {a0 a1 b0 b1 : Int} (ha : WB a0 a1) (hb : WB b0 b1) : wide_Cmp.f a0 a1 b0 b1 = some (cmpv (wv a0 a1) (wv b0 b1)) := by
  obtain ⟨⟨p1, p2⟩, p3, p4⟩ := ha
  obtain ⟨⟨q1, q2⟩, q3, q4⟩ := hb
  unfold wide_Cmp.f cmpv wv
  simp only [Bool.and_eq_true, beq_iff_eq]
  (repeat' split) <;> first | rfl | omega
theorem awake_f : octroilaw01_awake.f = some true := by
  unfold octroilaw01_awake.f
  have h1 := Of_f (a := 1) (by omega)
  have h2 := Of_f (a := -1) (by omega)
  have h3 := Add_f (a0 := 0) (a1 := 18446744073709551615) (b0 := 0) (b1 := 1) (by unfold WB; omega) (by unfold WB; omega)
  have h4 := Neg_f (a0 := -9223372036854775808) (a1 := 0) (by unfold WB; omega)
  have h5 := Cmp_f (a0 := -1) (a1 := 18446744073709551615) (b0 := 0) (b1 := 1) (by unfold WB; omega) (by unfold WB; omega)
  simp only [h1, Option.bind_some]
  rw [show (1 : Int) / 18446744073709551616 = 0 from by decide, show (1 : Int) % 18446744073709551616 = 1 from by decide, h3]
  simp only [Option.bind_some]
  rw [h4]
  simp only [Option.bind_some, h2]
  rw [show (-1 : Int) / 18446744073709551616 = -1 from by decide, show (-1 : Int) % 18446744073709551616 = 18446744073709551615 from by decide, h5]
  decide

def wabs (v : Int) : Int := if v < 0 then -v else v
theorem wabs_in {h l : Int} (b : WB h l) : 0 ≤ wabs (wv h l) ∧ wabs (wv h l) ≤ 170141183460469231731687303715884105728 := by
  have := wv_in b
  unfold wabs
  split <;> omega
theorem Abs_f {h l : Int} (b : WB h l) : wide_Abs.f h l = some (wabs (wv h l) / 18446744073709551616, wabs (wv h l) % 18446744073709551616) := by
  obtain ⟨⟨p1, p2⟩, p3, p4⟩ := b
  unfold wide_Abs.f wabs
  by_cases h0 : h ≥ 0
  · rw [if_pos h0, if_neg (by unfold wv; omega), u64_wrap]
    unfold wv
    congr 2 <;> omega
  · rw [if_neg h0]
    have c0 : 0 ≤ sub64Hi 0 l 0 := by rw [sub64_hi (by omega) ⟨p3, p4⟩ (by omega)]; omega
    have c1 : sub64Hi 0 l 0 ≤ 1 := by rw [sub64_hi (by omega) ⟨p3, p4⟩ (by omega)]; omega
    rw [if_pos c1, if_pos (by unfold wv; omega), u64_wrap, sub64_lo (by omega) (by omega) ⟨c0, c1⟩, sub64_hi (by omega) ⟨p3, p4⟩ (by omega), sub64_lo (by omega) ⟨p3, p4⟩ (by omega)]
    unfold wv
    congr 2 <;> omega
theorem Join_f (neg : Bool) {hi lo : Int} (h1 : 0 ≤ hi ∧ hi ≤ 18446744073709551615) (h2 : 0 ≤ lo ∧ lo ≤ 18446744073709551615) :
    wide_Join.f neg hi lo = some (wans (if neg = true then -(hi * 18446744073709551616 + lo) else hi * 18446744073709551616 + lo)) := by
  unfold wide_Join.f
  by_cases h0 : hi / 9223372036854775808 = 0
  · rw [if_pos h0]
    have e : wrap64 hi = hi := by unfold wrap64; omega
    have b : WB hi lo := by unfold WB; omega
    rw [e]
    cases neg with
    | true =>
      rw [if_pos rfl, if_pos rfl, Neg_f b]
      rfl
    | false =>
      rw [if_neg (by simp), if_neg (by simp)]
      have := wans_wv b
      unfold wv at this
      rw [this]
  · rw [if_neg h0]
    cases neg with
    | true =>
      rw [if_pos rfl, if_pos rfl]
      unfold wans
      by_cases e1 : hi = 9223372036854775808
      · rw [if_pos e1]
        by_cases e2 : lo = 0
        · rw [if_pos e2, if_pos (by omega)]
          subst e1 e2
          rfl
        · rw [if_neg e2, if_neg (by omega)]
      · rw [if_neg e1, if_neg (by omega)]
    | false =>
      rw [if_neg (by simp), if_neg (by simp)]
      unfold wans
      rw [if_neg (by omega)]

theorem RAbs_f {h l : Int} (b : WB h l) : Ref01.Abs.f h l = some (wabs (wv h l) / 18446744073709551616, wabs (wv h l) % 18446744073709551616) := by
  unfold Ref01.Abs.f
  exact if_pos b
theorem RJoin_f (neg : Bool) {hi lo : Int} (h1 : 0 ≤ hi ∧ hi ≤ 18446744073709551615) (h2 : 0 ≤ lo ∧ lo ≤ 18446744073709551615) :
    Ref01.Join.f neg hi lo = some (wans (if neg = true then -(hi * 18446744073709551616 + lo) else hi * 18446744073709551616 + lo)) := by
  unfold Ref01.Join.f
  exact if_pos ⟨h1, h2⟩

theorem rd28_at (l : List S28) (j : Nat) (h : j < l.length) : rd_T28 l (j : Int) = l[j] := by
  unfold rd_T28
  rw [Int.toNat_natCast, List.getD_eq_getElem?_getD, List.getElem?_eq_getElem h]
  rfl
theorem back_abs {h l : Int} (b : WB h l) : (if decide (h < 0) = true then -(wabs (wv h l) / 18446744073709551616 * 18446744073709551616 + wabs (wv h l) % 18446744073709551616) else wabs (wv h l) / 18446744073709551616 * 18446744073709551616 + wabs (wv h l) % 18446744073709551616) = wv h l := by
  have e : wabs (wv h l) / 18446744073709551616 * 18446744073709551616 + wabs (wv h l) % 18446744073709551616 = wabs (wv h l) := by omega
  rw [e]
  unfold WB at b
  unfold wabs wv
  by_cases h0 : h < 0
  · rw [decide_eq_true h0, if_pos rfl, if_pos (by omega)]; omega
  · rw [decide_eq_false h0, if_neg (by simp), if_neg (by omega)]
theorem halves_l0 (l : List S28) (hl : l.length ≤ 8796093022208) (hq : ∀ x ∈ l, Q28 x) (neg : Bool) : ∀ (d j k : Nat), j + d = l.length → octroilaw01_WideHalves.l0 (k + 1 + d) l neg (j : Int) = some true := by
  intro d
  induction d with
  | zero =>
    intro j k hj
    rw [Nat.add_zero, octroilaw01_WideHalves.l0, if_neg (by omega)]
  | succ d ih =>
    intro j k hj
    have hjl : j < l.length := by omega
    have b : WB (l[j]).f0.f0 (l[j]).f0.f1 := (hq l[j] (List.getElem_mem hjl)).1
    have hu : 0 ≤ (l[j]).f0.f0 % 18446744073709551616 ∧ (l[j]).f0.f0 % 18446744073709551616 ≤ 18446744073709551615 := by omega
    have ha := wabs_in b
    rw [show k + 1 + (d + 1) = (k + 1 + d) + 1 from by omega, octroilaw01_WideHalves.l0, if_pos (by omega), if_pos (by omega), rd28_at l j hjl, Abs_f b, RAbs_f b, u64_wrap, Join_f neg hu b.2, RJoin_f neg hu b.2]
    simp only [Option.bind_some, if_true, bne_self_eq_false, beq_self_eq_true, Bool.not_true, Bool.or_self, Bool.false_eq_true, if_false]
    rw [Join_f _ (by omega) (by omega), back_abs b, wans_wv b]
    simp only [Option.bind_some, if_true, beq_self_eq_true, Bool.not_true, Bool.or_self, Bool.false_eq_true, if_false]
    rw [show wrap64 ((j : Int) + 1) = ((j + 1 : Nat) : Int) from by unfold wrap64; omega]
    exact ih (j + 1) k (by omega)
theorem WideHalves_pure : WideHalves.Pure := by
  intro l neg hl
  obtain ⟨hl0, hq⟩ := hl
  refine ⟨0 + 1 + l.length, ?_⟩
  unfold octroilaw01_WideHalves.f
  rw [awake_f, Option.bind_some, if_pos rfl]
  exact halves_l0 l (by omega) hq neg l.length 0 0 (by omega)

end Go.Proofs.Ytehmkffmnaabaaa.PWideHalves
