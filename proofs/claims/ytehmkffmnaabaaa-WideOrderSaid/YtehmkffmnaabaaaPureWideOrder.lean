/-
  The pure statement of WideOrder: the printed function answers true at all arguments within their bounds. No condition.
-/
import Derived.Test.YtehmkffmnaabaaaQWideOrder
import Derived.Test.YtehmkffmnaabaaaWPlain
namespace Go.Proofs.Ytehmkffmnaabaaa.PWideOrder
open Go.RowKit
set_option linter.unusedVariables false
set_option linter.unusedSimpArgs false

theorem Add_f {a0 a1 b0 b1 : Int} (ha : WB a0 a1) (hb : WB b0 b1) : wide_Add.f a0 a1 b0 b1 = some (wans (wv a0 a1 + wv b0 b1)) := by
  obtain ⟨⟨p1, p2⟩, p3, p4⟩ := ha
  obtain ⟨⟨q1, q2⟩, q3, q4⟩ := hb
  have c0 : 0 ≤ add64Hi a1 b1 0 := by rw [add64_hi p3 q3 (by omega)]; omega
  have c1 : add64Hi a1 b1 0 ≤ 1 := by rw [add64_hi p3 q3 (by omega)]; omega
  have e : wv a0 a1 + wv b0 b1 = (a0 + b0 + add64Hi a1 b1 0) * 18446744073709551616 + add64Lo a1 b1 0 := by
    rw [add64_hi p3 q3 (by omega), add64_lo p3 q3 (by omega)]; unfold wv; omega
  have l0 : 0 ≤ add64Lo a1 b1 0 ∧ add64Lo a1 b1 0 ≤ 18446744073709551615 := by rw [add64_lo p3 q3 (by omega)]; omega
  unfold wide_Add.f
  rw [if_pos c1, e]
  generalize add64Hi a1 b1 0 = c at *
  generalize add64Lo a1 b1 0 = l at *
  simp only [u64_wrap]
  rw [add64_lo (by omega) (by omega) c0]
  have e2 : ((a0 + b0 + c) * 18446744073709551616 + l) / 18446744073709551616 = a0 + b0 + c := by omega
  have e3 : ((a0 + b0 + c) * 18446744073709551616 + l) % 18446744073709551616 = l := by omega
  have e4 : wrap64 ((a0 % 18446744073709551616 + b0 % 18446744073709551616 + c) % 18446744073709551616) = wrap64 (a0 + b0 + c) := by unfold wrap64; omega
  rw [e4]
  unfold wans
  rw [e2, e3]
  have w1 : -9223372036854775808 ≤ a0 + b0 + c ∧ a0 + b0 + c ≤ 9223372036854775807 → wrap64 (a0 + b0 + c) = a0 + b0 + c := by unfold wrap64; omega
  have w2 : a0 + b0 + c < -9223372036854775808 → 0 ≤ wrap64 (a0 + b0 + c) := by unfold wrap64; omega
  have w3 : 9223372036854775807 < a0 + b0 + c → wrap64 (a0 + b0 + c) < 0 := by unfold wrap64; omega
  generalize wrap64 (a0 + b0 + c) = z at *
  simp only [beq_iff_eq, bne_iff_ne, ne_eq, decide_eq_decide]
  (repeat' split) <;> first | rfl | omega | (rw [w1 (by omega)])

theorem Sub_f {a0 a1 b0 b1 : Int} (ha : WB a0 a1) (hb : WB b0 b1) : wide_Sub.f a0 a1 b0 b1 = some (wans (wv a0 a1 - wv b0 b1)) := by
  obtain ⟨⟨p1, p2⟩, p3, p4⟩ := ha
  obtain ⟨⟨q1, q2⟩, q3, q4⟩ := hb
  have c0 : 0 ≤ sub64Hi a1 b1 0 := by rw [sub64_hi ⟨p3, p4⟩ ⟨q3, q4⟩ (by omega)]; omega
  have c1 : sub64Hi a1 b1 0 ≤ 1 := by rw [sub64_hi ⟨p3, p4⟩ ⟨q3, q4⟩ (by omega)]; omega
  have e : wv a0 a1 - wv b0 b1 = (a0 - b0 - sub64Hi a1 b1 0) * 18446744073709551616 + sub64Lo a1 b1 0 := by
    rw [sub64_hi ⟨p3, p4⟩ ⟨q3, q4⟩ (by omega), sub64_lo p3 ⟨q3, q4⟩ (by omega)]; unfold wv; omega
  have l0 : 0 ≤ sub64Lo a1 b1 0 ∧ sub64Lo a1 b1 0 ≤ 18446744073709551615 := by rw [sub64_lo p3 ⟨q3, q4⟩ (by omega)]; omega
  unfold wide_Sub.f
  rw [if_pos c1, e]
  generalize sub64Hi a1 b1 0 = c at *
  generalize sub64Lo a1 b1 0 = l at *
  simp only [u64_wrap]
  rw [sub64_lo (by omega) (by omega) ⟨c0, c1⟩]
  have e2 : ((a0 - b0 - c) * 18446744073709551616 + l) / 18446744073709551616 = a0 - b0 - c := by omega
  have e3 : ((a0 - b0 - c) * 18446744073709551616 + l) % 18446744073709551616 = l := by omega
  have e4 : wrap64 ((a0 % 18446744073709551616 - b0 % 18446744073709551616 - c) % 18446744073709551616) = wrap64 (a0 - b0 - c) := by unfold wrap64; omega
  rw [e4]
  unfold wans
  rw [e2, e3]
  have w1 : -9223372036854775808 ≤ a0 - b0 - c ∧ a0 - b0 - c ≤ 9223372036854775807 → wrap64 (a0 - b0 - c) = a0 - b0 - c := by unfold wrap64; omega
  have w2 : a0 - b0 - c < -9223372036854775808 → 0 ≤ wrap64 (a0 - b0 - c) := by unfold wrap64; omega
  have w3 : 9223372036854775807 < a0 - b0 - c → wrap64 (a0 - b0 - c) < 0 := by unfold wrap64; omega
  generalize wrap64 (a0 - b0 - c) = z at *
  simp only [beq_iff_eq, bne_iff_ne, ne_eq, decide_eq_decide]
  (repeat' split) <;> first | rfl | omega | (rw [w1 (by omega)])

theorem WB_zero : WB 0 0 := by unfold WB; omega
theorem Neg_f {a0 a1 : Int} (ha : WB a0 a1) : wide_Neg.f a0 a1 = some (wans (-wv a0 a1)) := by
  unfold wide_Neg.f
  rw [Sub_f WB_zero ha, show wv 0 0 - wv a0 a1 = -wv a0 a1 from by unfold wv; omega]
  rfl
theorem Of_f {a : Int} (h : -9223372036854775808 ≤ a ∧ a ≤ 9223372036854775807) : wide_Of.f a = some (a / 18446744073709551616, a % 18446744073709551616) := by
  unfold wide_Of.f
  rw [u64_wrap, show a / 9223372036854775808 = a / 18446744073709551616 from by omega]
theorem WB_of {a : Int} (h : -9223372036854775808 ≤ a ∧ a ≤ 9223372036854775807) : WB (a / 18446744073709551616) (a % 18446744073709551616) := by unfold WB; omega
def cmpv (a b : Int) : Int := if a < b then -1 else if a = b then 0 else 1
theorem cmpv_cases (a b : Int) : (a < b ∧ cmpv a b = -1) ∨ (a = b ∧ cmpv a b = 0) ∨ (b < a ∧ cmpv a b = 1) := by
  unfold cmpv
  (repeat' split) <;> omega
theorem Cmp_f {a0 a1 b0 b1 : Int} (ha : WB a0 a1) (hb : WB b0 b1) : wide_Cmp.f a0 a1 b0 b1 = some (cmpv (wv a0 a1) (wv b0 b1)) := by
  obtain ⟨⟨p1, p2⟩, p3, p4⟩ := ha
  obtain ⟨⟨q1, q2⟩, q3, q4⟩ := hb
  unfold wide_Cmp.f cmpv wv
  simp only [Bool.and_eq_true, beq_iff_eq]
  (repeat' split) <;> first | rfl | omega
theorem awake_f : octroilaw01_awake.f = some true := by
  unfold octroilaw01_awake.f
  have h1 := Of_f (a := 1) (by omega)
  have h2 := Of_f (a := -1) (by omega)
  have h3 := Add_f (a0 := 0) (a1 := 18446744073709551615) (b0 := 0) (b1 := 1) (by unfold WB; omega) (by unfold WB; omega)
  have h4 := Neg_f (a0 := -9223372036854775808) (a1 := 0) (by unfold WB; omega)
  have h5 := Cmp_f (a0 := -1) (a1 := 18446744073709551615) (b0 := 0) (b1 := 1) (by unfold WB; omega) (by unfold WB; omega)
  simp only [h1, Option.bind_some]
  rw [show (1 : Int) / 18446744073709551616 = 0 from by decide, show (1 : Int) % 18446744073709551616 = 1 from by decide, h3]
  simp only [Option.bind_some]
  rw [h4]
  simp only [Option.bind_some, h2]
  rw [show (-1 : Int) / 18446744073709551616 = -1 from by decide, show (-1 : Int) % 18446744073709551616 = 18446744073709551615 from by decide, h5]
  decide

theorem Int_f {a0 a1 : Int} (ha : WB a0 a1) : wide_Int.f a0 a1 = some (if -9223372036854775808 ≤ wv a0 a1 ∧ wv a0 a1 ≤ 9223372036854775807 then (wv a0 a1, true) else (0, false)) := by
  unfold WB at ha
  unfold wide_Int.f
  have e1 : (a0 = wrap64 a1 / 9223372036854775808) ↔ (-9223372036854775808 ≤ wv a0 a1 ∧ wv a0 a1 ≤ 9223372036854775807) := by
    unfold wrap64 wv; omega
  by_cases h : -9223372036854775808 ≤ wv a0 a1 ∧ wv a0 a1 ≤ 9223372036854775807
  · rw [if_pos h, if_pos (e1.2 h), show wrap64 a1 = wv a0 a1 from by have := e1.2 h; unfold wrap64 at *; unfold wv at *; omega]
  · rw [if_neg h, if_neg (fun h' => h (e1.1 h'))]


theorem Digits_f {h l : Int} (b : WB h l) : Ref01.Digits.f h l = some (Ref01.tup (wv h l)) := by
  unfold Ref01.Digits.f
  exact if_pos b

theorem Plus_tup (V U : Int) : Ref01.Plus.f (Ref01.tup V).1 (Ref01.tup V).2.1 (Ref01.tup V).2.2.1 (Ref01.tup V).2.2.2.1 (Ref01.tup V).2.2.2.2.1 (Ref01.tup V).2.2.2.2.2.1 (Ref01.tup V).2.2.2.2.2.2.1 (Ref01.tup V).2.2.2.2.2.2.2.1 (Ref01.tup V).2.2.2.2.2.2.2.2.1 (Ref01.tup V).2.2.2.2.2.2.2.2.2.1 (Ref01.tup V).2.2.2.2.2.2.2.2.2.2.1 (Ref01.tup V).2.2.2.2.2.2.2.2.2.2.2
    (Ref01.tup U).1 (Ref01.tup U).2.1 (Ref01.tup U).2.2.1 (Ref01.tup U).2.2.2.1 (Ref01.tup U).2.2.2.2.1 (Ref01.tup U).2.2.2.2.2.1 (Ref01.tup U).2.2.2.2.2.2.1 (Ref01.tup U).2.2.2.2.2.2.2.1 (Ref01.tup U).2.2.2.2.2.2.2.2.1 (Ref01.tup U).2.2.2.2.2.2.2.2.2.1 (Ref01.tup U).2.2.2.2.2.2.2.2.2.2.1 (Ref01.tup U).2.2.2.2.2.2.2.2.2.2.2 = some (Ref01.tup (V + U)) := Ref01.Plus_f V U

theorem Turned_tup (V : Int) : Ref01.Turned.f (Ref01.tup V).1 (Ref01.tup V).2.1 (Ref01.tup V).2.2.1 (Ref01.tup V).2.2.2.1 (Ref01.tup V).2.2.2.2.1 (Ref01.tup V).2.2.2.2.2.1 (Ref01.tup V).2.2.2.2.2.2.1 (Ref01.tup V).2.2.2.2.2.2.2.1 (Ref01.tup V).2.2.2.2.2.2.2.2.1 (Ref01.tup V).2.2.2.2.2.2.2.2.2.1 (Ref01.tup V).2.2.2.2.2.2.2.2.2.2.1 (Ref01.tup V).2.2.2.2.2.2.2.2.2.2.2 = some (Ref01.tup (-V)) := Ref01.Turned_f V

theorem IsBelow_tup {V : Int} (h : -3138550867693340381917894711603833208051177722232017256448 ≤ V ∧ V < 3138550867693340381917894711603833208051177722232017256448) : Ref01.IsBelow.f (Ref01.tup V).1 (Ref01.tup V).2.1 (Ref01.tup V).2.2.1 (Ref01.tup V).2.2.2.1 (Ref01.tup V).2.2.2.2.1 (Ref01.tup V).2.2.2.2.2.1 (Ref01.tup V).2.2.2.2.2.2.1 (Ref01.tup V).2.2.2.2.2.2.2.1 (Ref01.tup V).2.2.2.2.2.2.2.2.1 (Ref01.tup V).2.2.2.2.2.2.2.2.2.1 (Ref01.tup V).2.2.2.2.2.2.2.2.2.2.1 (Ref01.tup V).2.2.2.2.2.2.2.2.2.2.2 = some (decide (V < 0)) := Ref01.IsBelow_f h
theorem zero_tup {V : Int} (h : -3138550867693340381917894711603833208051177722232017256448 ≤ V ∧ V < 3138550867693340381917894711603833208051177722232017256448) : ((Ref01.tup V).1 == 0 && ((Ref01.tup V).2.1 == 0 && ((Ref01.tup V).2.2.1 == 0 && ((Ref01.tup V).2.2.2.1 == 0 && ((Ref01.tup V).2.2.2.2.1 == 0 && ((Ref01.tup V).2.2.2.2.2.1 == 0 && ((Ref01.tup V).2.2.2.2.2.2.1 == 0 && ((Ref01.tup V).2.2.2.2.2.2.2.1 == 0 && ((Ref01.tup V).2.2.2.2.2.2.2.2.1 == 0 && ((Ref01.tup V).2.2.2.2.2.2.2.2.2.1 == 0 && ((Ref01.tup V).2.2.2.2.2.2.2.2.2.2.1 == 0 && ((Ref01.tup V).2.2.2.2.2.2.2.2.2.2.2 == 0)))))))))))) = decide (V = 0) := by
  rw [Bool.eq_iff_iff]
  simp only [Bool.and_eq_true, beq_iff_eq, decide_eq_true_eq]
  constructor
  · rintro ⟨h0, h1, h2, h3, h4, h5, h6, h7, h8, h9, h10, h11⟩
    have h := Ref01.lval_dg V
    unfold Ref01.lval at h
    unfold Ref01.tup at h0 h1 h2 h3 h4 h5 h6 h7 h8 h9 h10 h11
    simp only at h0 h1 h2 h3 h4 h5 h6 h7 h8 h9 h10 h11
    rw [h0, h1, h2, h3, h4, h5, h6, h7, h8, h9, h10, h11] at h
    omega
  · rintro rfl
    unfold Ref01.tup Ref01.dg
    simp
theorem RCmp_f {a0 a1 b0 b1 : Int} (ha : WB a0 a1) (hb : WB b0 b1) : octroiref01_Cmp.f a0 a1 b0 b1 = some (cmpv (wv a0 a1) (wv b0 b1)) := by
  have h1 := wv_in ha
  have h2 := wv_in hb
  unfold octroiref01_Cmp.f
  rw [Digits_f ha, Option.bind_some, Digits_f hb, Option.bind_some, Turned_tup, Option.bind_some, Plus_tup, Option.bind_some, ← Int.sub_eq_add_neg, IsBelow_tup (by omega), Option.bind_some, zero_tup (by omega)]
  simp only [decide_eq_true_eq]
  unfold cmpv
  (repeat' split) <;> first | rfl | omega
theorem ROf_f {a : Int} (h : -9223372036854775808 ≤ a ∧ a ≤ 9223372036854775807) : octroiref01_Of.f a = some (a / 18446744073709551616, a % 18446744073709551616) := by
  unfold octroiref01_Of.f
  rw [u64_wrap]
  split
  · rw [show a / 18446744073709551616 = -1 from by omega]
  · rw [show a / 18446744073709551616 = 0 from by omega]
theorem RInt_f {a0 a1 : Int} (ha : WB a0 a1) : octroiref01_Int.f a0 a1 = wide_Int.f a0 a1 := by
  unfold WB at ha
  unfold octroiref01_Int.f wide_Int.f
  have hw : -9223372036854775808 ≤ wrap64 a1 ∧ wrap64 a1 ≤ 9223372036854775807 := by unfold wrap64; omega
  rw [ROf_f hw, Option.bind_some]
  have e1 : wrap64 a1 % 18446744073709551616 = a1 := by unfold wrap64; omega
  have e2 : wrap64 a1 / 18446744073709551616 = wrap64 a1 / 9223372036854775808 := by omega
  simp only [e1, e2, beq_self_eq_true, Bool.not_true, Bool.or_false, Bool.not_eq_true', beq_eq_false_iff_ne, ne_eq]
  by_cases h : a0 = wrap64 a1 / 9223372036854775808
  · rw [if_pos h, if_neg (fun h' => h' h.symm)]
  · rw [if_neg h, if_pos (fun h' => h h'.symm)]
def sgnv (v : Int) : Int := if v < 0 then -1 else if v = 0 then 0 else 1
theorem Sign_f {a0 a1 : Int} (ha : WB a0 a1) : wide_Sign.f a0 a1 = some (sgnv (wv a0 a1)) := by
  unfold WB at ha
  unfold wide_Sign.f sgnv wv
  simp only [Bool.and_eq_true, beq_iff_eq]
  (repeat' split) <;> first | rfl | omega
theorem RSign_f {a0 a1 : Int} (ha : WB a0 a1) : octroiref01_Sign.f a0 a1 = some (sgnv (wv a0 a1)) := by
  have h1 := wv_in ha
  unfold octroiref01_Sign.f
  rw [Digits_f ha, Option.bind_some, IsBelow_tup (by omega), Option.bind_some]
  simp only [decide_eq_true_eq]
  unfold WB at ha
  unfold sgnv wv at *
  (repeat' split) <;> first | rfl | omega
theorem rd28_at (l : List S28) (j : Nat) (h : j < l.length) : rd_T28 l (j : Int) = l[j] := by
  unfold rd_T28
  rw [Int.toNat_natCast, List.getD_eq_getElem?_getD, List.getElem?_eq_getElem h]
  rfl
theorem order_l0 (l : List S28) (hl : l.length ≤ 8796093022208) (hq : ∀ x ∈ l, Q28 x) : ∀ (d j k : Nat), j + d = l.length → octroilaw01_WideOrder.l0 (k + 1 + 2 * d) l (j : Int) = some true := by
  intro d
  induction d with
  | zero =>
    intro j k hj
    rw [Nat.mul_zero, Nat.add_zero, octroilaw01_WideOrder.l0, if_neg (by omega)]
  | succ d ih =>
    intro j k hj
    have hjl : j < l.length := by omega
    obtain ⟨ha, hb⟩ := hq l[j] (List.getElem_mem hjl)
    obtain ⟨r, hr⟩ : ∃ r, wide_Int.f (l[j]).f0.f0 (l[j]).f0.f1 = some r := ⟨_, Int_f ha⟩
    rw [show k + 1 + 2 * (d + 1) = (k + 1 + 2 * d) + 1 + 1 from by omega, octroilaw01_WideOrder.l0, if_pos (by omega), if_pos (by omega), rd28_at l j hjl, RInt_f ha, hr, Sign_f ha, RSign_f ha, Cmp_f ha hb, RCmp_f ha hb]
    simp only [Option.bind_some, if_true, bne_self_eq_false, Bool.false_eq_true, if_false]
    rw [octroilaw01_WideOrder.j1, Of_f ha.1, ROf_f ha.1]
    unfold wide_OfUint.f
    simp only [Option.bind_some, bne_self_eq_false, beq_self_eq_true, Bool.not_true, Bool.or_self, Bool.false_eq_true, if_false]
    rw [show wrap64 ((j : Int) + 1) = ((j + 1 : Nat) : Int) from by unfold wrap64; omega]
    exact ih (j + 1) k (by omega)
theorem WideOrder_pure : WideOrder.Pure := by
  intro l hl
  obtain ⟨hl0, hq⟩ := hl
  refine ⟨0 + 1 + 2 * l.length, ?_⟩
  unfold octroilaw01_WideOrder.f
  rw [awake_f, Option.bind_some, if_pos rfl]
  exact order_l0 l (by omega) hq l.length 0 0 (by omega)

end Go.Proofs.Ytehmkffmnaabaaa.PWideOrder
