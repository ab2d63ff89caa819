/-
  The pure statement of WideTotals: the printed function answers true at all arguments within their bounds. No condition.
-/
import Derived.Test.YtehmkffmnaabaaaQWideTotals
import Derived.Test.YtehmkffmnaabaaaWPlain
namespace Go.Proofs.Ytehmkffmnaabaaa.PWideTotals
open Go.RowKit
set_option linter.unusedVariables false
set_option linter.unusedSimpArgs false

theorem Add_f {a0 a1 b0 b1 : Int} (ha : WB a0 a1) (hb : WB b0 b1) : wide_Add.f a0 a1 b0 b1 = some (wans (wv a0 a1 + wv b0 b1)) := by
  obtain ⟨⟨p1, p2⟩, p3, p4⟩ := ha
  obtain ⟨⟨q1, q2⟩, q3, q4⟩ := hb
  have c0 : 0 ≤ add64Hi a1 b1 0 := by rw [add64_hi p3 q3 (by omega)]; omega
  have c1 : add64Hi a1 b1 0 ≤ 1 := by rw [add64_hi p3 q3 (by omega)]; omega
  have e : wv a0 a1 + wv b0 b1 = (a0 + b0 + add64Hi a1 b1 0) * 18446744073709551616 + add64Lo a1 b1 0 := by
    rw [add64_hi p3 q3 (by omega), add64_lo p3 q3 (by omega)]; unfold wv; omega
  have l0 : 0 ≤ add64Lo a1 b1 0 ∧ add64Lo a1 b1 0 ≤ 18446744073709551615 := by rw [add64_lo p3 q3 (by omega)]; omega
  unfold wide_Add.f
  rw [if_pos c1, e]
  generalize add64Hi a1 b1 0 = c at *
  generalize add64Lo a1 b1 0 = l at *
  simp only [u64_wrap]
  rw [add64_lo (by omega) (by omega) c0]
  have e2 : ((a0 + b0 + c) * 18446744073709551616 + l) / 18446744073709551616 = a0 + b0 + c := by omega
  have e3 : ((a0 + b0 + c) * 18446744073709551616 + l) % 18446744073709551616 = l := by omega
  have e4 : wrap64 ((a0 % 18446744073709551616 + b0 % 18446744073709551616 + c) % 18446744073709551616) = wrap64 (a0 + b0 + c) := by unfold wrap64; omega
  rw [e4]
  unfold wans
  rw [e2, e3]
  have w1 : -9223372036854775808 ≤ a0 + b0 + c ∧ a0 + b0 + c ≤ 9223372036854775807 → wrap64 (a0 + b0 + c) = a0 + b0 + c := by unfold wrap64; omega
  have w2 : a0 + b0 + c < -9223372036854775808 → 0 ≤ wrap64 (a0 + b0 + c) := by unfold wrap64; omega
  have w3 : 9223372036854775807 < a0 + b0 + c → wrap64 (a0 + b0 + c) < 0 := by unfold wrap64; omega
  generalize wrap64 (a0 + b0 + c) = z at *
  simp only [beq_iff_eq, bne_iff_ne, ne_eq, decide_eq_decide]
  (repeat' split) <;> first | rfl | omega | (rw [w1 (by omega)])

theorem Sub_f {a0 a1 b0 b1 : Int} (ha : WB a0 a1) (hb : WB b0 b1) : wide_Sub.f a0 a1 b0 b1 = some (wans (wv a0 a1 - wv b0 b1)) := by
  obtain ⟨⟨p1, p2⟩, p3, p4⟩ := ha
  obtain ⟨⟨q1, q2⟩, q3, q4⟩ := hb
  have c0 : 0 ≤ sub64Hi a1 b1 0 := by rw [sub64_hi ⟨p3, p4⟩ ⟨q3, q4⟩ (by omega)]; omega
  have c1 : sub64Hi a1 b1 0 ≤ 1 := by rw [sub64_hi ⟨p3, p4⟩ ⟨q3, q4⟩ (by omega)]; omega
  have e : wv a0 a1 - wv b0 b1 = (a0 - b0 - sub64Hi a1 b1 0) * 18446744073709551616 + sub64Lo a1 b1 0 := by
    rw [sub64_hi ⟨p3, p4⟩ ⟨q3, q4⟩ (by omega), sub64_lo p3 ⟨q3, q4⟩ (by omega)]; unfold wv; omega
  have l0 : 0 ≤ sub64Lo a1 b1 0 ∧ sub64Lo a1 b1 0 ≤ 18446744073709551615 := by rw [sub64_lo p3 ⟨q3, q4⟩ (by omega)]; omega
  unfold wide_Sub.f
  rw [if_pos c1, e]
  generalize sub64Hi a1 b1 0 = c at *
  generalize sub64Lo a1 b1 0 = l at *
  simp only [u64_wrap]
  rw [sub64_lo (by omega) (by omega) ⟨c0, c1⟩]
  have e2 : ((a0 - b0 - c) * 18446744073709551616 + l) / 18446744073709551616 = a0 - b0 - c := by omega
  have e3 : ((a0 - b0 - c) * 18446744073709551616 + l) % 18446744073709551616 = l := by omega
  have e4 : wrap64 ((a0 % 18446744073709551616 - b0 % 18446744073709551616 - c) % 18446744073709551616) = wrap64 (a0 - b0 - c) := by unfold wrap64; omega
  rw [e4]
  unfold wans
  rw [e2, e3]
  have w1 : -9223372036854775808 ≤ a0 - b0 - c ∧ a0 - b0 - c ≤ 9223372036854775807 → wrap64 (a0 - b0 - c) = a0 - b0 - c := by unfold wrap64; omega
  have w2 : a0 - b0 - c < -9223372036854775808 → 0 ≤ wrap64 (a0 - b0 - c) := by unfold wrap64; omega
  have w3 : 9223372036854775807 < a0 - b0 - c → wrap64 (a0 - b0 - c) < 0 := by unfold wrap64; omega
  generalize wrap64 (a0 - b0 - c) = z at *
  simp only [beq_iff_eq, bne_iff_ne, ne_eq, decide_eq_decide]
  (repeat' split) <;> first | rfl | omega | (rw [w1 (by omega)])

theorem WB_zero : WB 0 0 := by unfold WB; omega
theorem Neg_f {a0 a1 : Int} (ha : WB a0 a1) : wide_Neg.f a0 a1 = some (wans (-wv a0 a1)) := by
  unfold wide_Neg.f
  rw [Sub_f WB_zero ha, show wv 0 0 - wv a0 a1 = -wv a0 a1 from by unfold wv; omega]
  rfl
theorem Of_f {a : Int} (h : -9223372036854775808 ≤ a ∧ a ≤ 9223372036854775807) : wide_Of.f a = some (a / 18446744073709551616, a % 18446744073709551616) := by
  unfold wide_Of.f
  rw [u64_wrap, show a / 9223372036854775808 = a / 18446744073709551616 from by omega]
theorem WB_of {a : Int} (h : -9223372036854775808 ≤ a ∧ a ≤ 9223372036854775807) : WB (a / 18446744073709551616) (a % 18446744073709551616) := by unfold WB; omega
def cmpv (a b : Int) : Int := if a < b then -1 else if a = b then 0 else 1
theorem cmpv_cases (a b : Int) : (a < b ∧ cmpv a b = -1) ∨ (a = b ∧ cmpv a b = 0) ∨ (b < a ∧ cmpv a b = 1) := by
  unfold cmpv
  (repeat' split) <;> omega
theorem Cmp_f {a0 a1 b0 b1 : Int} (ha : WB a0 a1) (hb : WB b0 b1) : wide_Cmp.f a0 a1 b0 b1 = some (cmpv (wv a0 a1) (wv b0 b1)) := by
  obtain ⟨⟨p1, p2⟩, p3, p4⟩ := ha
  obtain ⟨⟨q1, q2⟩, q3, q4⟩ := hb
  unfold wide_Cmp.f cmpv wv
  simp only [Bool.and_eq_true, beq_iff_eq]
  (repeat' split) <;> first | rfl | omega
theorem awake_f : octroilaw01_awake.f = some true := by
  unfold octroilaw01_awake.f
  have h1 := Of_f (a := 1) (by omega)
  have h2 := Of_f (a := -1) (by omega)
  have h3 := Add_f (a0 := 0) (a1 := 18446744073709551615) (b0 := 0) (b1 := 1) (by unfold WB; omega) (by unfold WB; omega)
  have h4 := Neg_f (a0 := -9223372036854775808) (a1 := 0) (by unfold WB; omega)
  have h5 := Cmp_f (a0 := -1) (a1 := 18446744073709551615) (b0 := 0) (b1 := 1) (by unfold WB; omega) (by unfold WB; omega)
  simp only [h1, Option.bind_some]
  rw [show (1 : Int) / 18446744073709551616 = 0 from by decide, show (1 : Int) % 18446744073709551616 = 1 from by decide, h3]
  simp only [Option.bind_some]
  rw [h4]
  simp only [Option.bind_some, h2]
  rw [show (-1 : Int) / 18446744073709551616 = -1 from by decide, show (-1 : Int) % 18446744073709551616 = 18446744073709551615 from by decide, h5]
  decide

def ws (l : List S26) : Int := (l.map fun x => wv x.f0 x.f1).sum
theorem ws_nil : ws [] = 0 := rfl
theorem ws_cons (x : S26) (l : List S26) : ws (x :: l) = wv x.f0 x.f1 + ws l := by simp [ws]
theorem ws_append (a b : List S26) : ws (a ++ b) = ws a + ws b := by simp [ws]
theorem ws_reverse (a : List S26) : ws a.reverse = ws a := by simp [ws]
theorem rd_at (l : List S26) (j : Nat) (h : j < l.length) : rd_T26 l (j : Int) = l[j] := by
  unfold rd_T26
  rw [Int.toNat_natCast, List.getD_eq_getElem?_getD, List.getElem?_eq_getElem h]
  rfl
theorem wrap64_in {n : Int} (h : -9223372036854775808 ≤ n ∧ n ≤ 9223372036854775807) : wrap64 n = n := by unfold wrap64; omega

theorem Sum_end (lo hi top : Int) (hlo : 0 ≤ lo ∧ lo ≤ 18446744073709551615) (hhi : 0 ≤ hi ∧ hi ≤ 18446744073709551615) :
    (if top = wrap64 hi / 9223372036854775808 then some (wrap64 hi, lo, (0 : Int)) else some (0, 0, 10)) = some (wans (top * 340282366920938463463374607431768211456 + hi * 18446744073709551616 + lo)) := by
  unfold wans wrap64
  split
  · rw [if_pos (by omega)]
    congr 3 <;> omega
  · rw [if_neg (by omega)]

theorem Sum_l0 (l : List S26) (hl : l.length ≤ 8796093022208) (hq : ∀ x ∈ l, WB x.f0 x.f1) : ∀ (d j k : Nat) (lo hi top : Int), j + d = l.length → 0 ≤ lo ∧ lo ≤ 18446744073709551615 → 0 ≤ hi ∧ hi ≤ 18446744073709551615 → -(j : Int) ≤ top ∧ top ≤ j →
    wide_Sum.l0 (k + 1 + d) lo hi top l (l.length : Int) (j : Int) = some (wans (top * 340282366920938463463374607431768211456 + hi * 18446744073709551616 + lo + ws (l.drop j))) := by
  intro d
  induction d with
  | zero =>
    intro j k lo hi top hj hlo hhi htop
    rw [Nat.add_zero, wide_Sum.l0, if_neg (by omega), List.drop_of_length_le (by omega), ws_nil, Int.add_zero]
    exact Sum_end lo hi top hlo hhi
  | succ d ih =>
    intro j k lo hi top hj hlo hhi htop
    have hjl : j < l.length := by omega
    obtain ⟨⟨p1, p2⟩, p3, p4⟩ := hq l[j] (List.getElem_mem hjl)
    rw [show k + 1 + (d + 1) = (k + 1 + d) + 1 from by omega, wide_Sum.l0, if_pos (by omega), if_pos (by omega), if_pos (by omega), rd_at l j hjl]
    rw [add64_hi hlo.1 p3 (by omega), add64_lo hlo.1 p3 (by omega)]
    simp only [u64_wrap]
    rw [if_pos (by omega)]
    rw [add64_hi hhi.1 (by omega) (by omega), add64_lo hhi.1 (by omega) (by omega)]
    rw [List.drop_eq_getElem_cons hjl, ws_cons]
    have e0 : wrap64 ((j : Int) + 1) = ((j + 1 : Nat) : Int) := by unfold wrap64; omega
    rw [e0]
    unfold wv
    generalize (l[j]).f0 = h at *
    generalize (l[j]).f1 = w at *
    have ec : 0 ≤ (lo + w + 0) / 18446744073709551616 ∧ (lo + w + 0) / 18446744073709551616 ≤ 1 := by omega
    have el : lo + w = (lo + w + 0) / 18446744073709551616 * 18446744073709551616 + (lo + w + 0) % 18446744073709551616 := by omega
    have el2 : 0 ≤ (lo + w + 0) % 18446744073709551616 ∧ (lo + w + 0) % 18446744073709551616 ≤ 18446744073709551615 := by omega
    generalize (lo + w + 0) / 18446744073709551616 = c at *
    generalize (lo + w + 0) % 18446744073709551616 = lo' at *
    have e2 : 0 ≤ (hi + h % 18446744073709551616 + c) / 18446744073709551616 ∧ (hi + h % 18446744073709551616 + c) / 18446744073709551616 ≤ 1 := by omega
    have eh : hi + h % 18446744073709551616 + c = (hi + h % 18446744073709551616 + c) / 18446744073709551616 * 18446744073709551616 + (hi + h % 18446744073709551616 + c) % 18446744073709551616 := by omega
    have eh2 : 0 ≤ (hi + h % 18446744073709551616 + c) % 18446744073709551616 ∧ (hi + h % 18446744073709551616 + c) % 18446744073709551616 ≤ 18446744073709551615 := by omega
    generalize (hi + h % 18446744073709551616 + c) / 18446744073709551616 = c2 at *
    generalize (hi + h % 18446744073709551616 + c) % 18446744073709551616 = hi' at *
    have es : h / 9223372036854775808 * 18446744073709551616 = h - h % 18446744073709551616 := by omega
    have es2 : -1 ≤ h / 9223372036854775808 ∧ h / 9223372036854775808 ≤ 0 := by omega
    generalize h / 9223372036854775808 = s at *
    rw [wrap64_in (n := c2) (by omega), wrap64_in (n := s + c2) (by omega), wrap64_in (n := top + (s + c2)) (by omega)]
    rw [ih (j + 1) k lo' hi' (top + (s + c2)) (by omega) el2 eh2 (by omega)]
    congr 2
    generalize h % 18446744073709551616 = hm at *
    omega

theorem Sum_f (l : List S26) (hl : l.length ≤ 8796093022208) (hq : ∀ x ∈ l, WB x.f0 x.f1) (k : Nat) (hk : l.length < k) : wide_Sum.f k l = some (wans (ws l)) := by
  unfold wide_Sum.f
  have := Sum_l0 l hl hq l.length 0 (k - 1 - l.length) 0 0 0 (by omega) (by omega) (by omega) (by omega)
  rw [show k - 1 - l.length + 1 + l.length = k from by omega] at this
  rw [show ((0 : Nat) : Int) = 0 from rfl] at this
  rw [this]
  simp


theorem Digits_f {h l : Int} (b : WB h l) : Ref01.Digits.f h l = some (Ref01.tup (wv h l)) := by
  unfold Ref01.Digits.f
  exact if_pos b

theorem told_bind {V : Int} (h : -3138550867693340381917894711603833208051177722232017256448 ≤ V ∧ V < 3138550867693340381917894711603833208051177722232017256448) :
    ((Ref01.told.f (Ref01.tup V).1 (Ref01.tup V).2.1 (Ref01.tup V).2.2.1 (Ref01.tup V).2.2.2.1 (Ref01.tup V).2.2.2.2.1 (Ref01.tup V).2.2.2.2.2.1 (Ref01.tup V).2.2.2.2.2.2.1 (Ref01.tup V).2.2.2.2.2.2.2.1 (Ref01.tup V).2.2.2.2.2.2.2.2.1 (Ref01.tup V).2.2.2.2.2.2.2.2.2.1 (Ref01.tup V).2.2.2.2.2.2.2.2.2.2.1 (Ref01.tup V).2.2.2.2.2.2.2.2.2.2.2).bind fun b => (some (b.1, b.2.1, b.2.2))) = some (wans V) := by
  rw [show Ref01.told.f (Ref01.tup V).1 (Ref01.tup V).2.1 (Ref01.tup V).2.2.1 (Ref01.tup V).2.2.2.1 (Ref01.tup V).2.2.2.2.1 (Ref01.tup V).2.2.2.2.2.1 (Ref01.tup V).2.2.2.2.2.2.1 (Ref01.tup V).2.2.2.2.2.2.2.1 (Ref01.tup V).2.2.2.2.2.2.2.2.1 (Ref01.tup V).2.2.2.2.2.2.2.2.2.1 (Ref01.tup V).2.2.2.2.2.2.2.2.2.2.1 (Ref01.tup V).2.2.2.2.2.2.2.2.2.2.2 = some (wans V) from Ref01.told_f h]
  rfl
theorem Plus_tup (V U : Int) : Ref01.Plus.f (Ref01.tup V).1 (Ref01.tup V).2.1 (Ref01.tup V).2.2.1 (Ref01.tup V).2.2.2.1 (Ref01.tup V).2.2.2.2.1 (Ref01.tup V).2.2.2.2.2.1 (Ref01.tup V).2.2.2.2.2.2.1 (Ref01.tup V).2.2.2.2.2.2.2.1 (Ref01.tup V).2.2.2.2.2.2.2.2.1 (Ref01.tup V).2.2.2.2.2.2.2.2.2.1 (Ref01.tup V).2.2.2.2.2.2.2.2.2.2.1 (Ref01.tup V).2.2.2.2.2.2.2.2.2.2.2
    (Ref01.tup U).1 (Ref01.tup U).2.1 (Ref01.tup U).2.2.1 (Ref01.tup U).2.2.2.1 (Ref01.tup U).2.2.2.2.1 (Ref01.tup U).2.2.2.2.2.1 (Ref01.tup U).2.2.2.2.2.2.1 (Ref01.tup U).2.2.2.2.2.2.2.1 (Ref01.tup U).2.2.2.2.2.2.2.2.1 (Ref01.tup U).2.2.2.2.2.2.2.2.2.1 (Ref01.tup U).2.2.2.2.2.2.2.2.2.2.1 (Ref01.tup U).2.2.2.2.2.2.2.2.2.2.2 = some (Ref01.tup (V + U)) := Ref01.Plus_f V U

theorem RSum_l0 (l : List S26) (hl : l.length ≤ 8796093022208) (hq : ∀ x ∈ l, WB x.f0 x.f1) : ∀ (d j k : Nat) (V : Int), j + d = l.length → -170141183460469231731687303715884105728 * (j : Int) ≤ V ∧ V ≤ 170141183460469231731687303715884105728 * (j : Int) →
    octroiref01_Sum.l0 (k + 1 + d) l (j : Int) (Ref01.tup V).1 (Ref01.tup V).2.1 (Ref01.tup V).2.2.1 (Ref01.tup V).2.2.2.1 (Ref01.tup V).2.2.2.2.1 (Ref01.tup V).2.2.2.2.2.1 (Ref01.tup V).2.2.2.2.2.2.1 (Ref01.tup V).2.2.2.2.2.2.2.1 (Ref01.tup V).2.2.2.2.2.2.2.2.1 (Ref01.tup V).2.2.2.2.2.2.2.2.2.1 (Ref01.tup V).2.2.2.2.2.2.2.2.2.2.1 (Ref01.tup V).2.2.2.2.2.2.2.2.2.2.2 = some (wans (V + ws (l.drop j))) := by
  intro d
  induction d with
  | zero =>
    intro j k V hj hV
    rw [Nat.add_zero, octroiref01_Sum.l0, if_neg (by omega), List.drop_of_length_le (by omega), ws_nil, Int.add_zero]
    exact told_bind (by omega)
  | succ d ih =>
    intro j k V hj hV
    have hjl : j < l.length := by omega
    have b := hq l[j] (List.getElem_mem hjl)
    have hv := wv_in b
    rw [show k + 1 + (d + 1) = (k + 1 + d) + 1 from by omega, octroiref01_Sum.l0, if_pos (by omega), if_pos (by omega), rd_at l j hjl, Digits_f b, Option.bind_some, Plus_tup, Option.bind_some]
    rw [show wrap64 ((j : Int) + 1) = ((j + 1 : Nat) : Int) from by unfold wrap64; omega]
    rw [ih (j + 1) k _ (by omega) (by omega), List.drop_eq_getElem_cons hjl, ws_cons, Int.add_assoc]
theorem WideTotals_pure : WideTotals.Pure := by
  intro l hl
  obtain ⟨hl0, hq⟩ := hl
  refine ⟨0 + 1 + l.length, ?_⟩
  unfold octroilaw01_WideTotals.f
  rw [awake_f, Option.bind_some, if_pos rfl, Sum_f l (by omega) hq _ (by omega), Option.bind_some]
  have h := RSum_l0 l (by omega) hq l.length 0 0 0 (by omega) (by omega)
  have e : octroiref01_Sum.f (0 + 1 + l.length) l = some (wans (ws l)) := by
    unfold octroiref01_Sum.f
    rw [List.drop_zero, Int.zero_add] at h
    exact h
  rw [e, Option.bind_some]
  simp

end Go.Proofs.Ytehmkffmnaabaaa.PWideTotals
