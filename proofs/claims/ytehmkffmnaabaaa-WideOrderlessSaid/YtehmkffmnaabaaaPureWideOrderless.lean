/-
  The pure statement of WideOrderless: the printed function answers true at all arguments within their bounds. No condition.
-/
import Derived.Test.YtehmkffmnaabaaaQWideOrderless
import Derived.Test.YtehmkffmnaabaaaWPlain
namespace Go.Proofs.Ytehmkffmnaabaaa.PWideOrderless
open Go.RowKit
set_option linter.unusedVariables false
set_option linter.unusedSimpArgs false

theorem Add_f {a0 a1 b0 b1 : Int} (ha : WB a0 a1) (hb : WB b0 b1) : wide_Add.f a0 a1 b0 b1 = some (wans (wv a0 a1 + wv b0 b1)) := by
  obtain ⟨⟨p1, p2⟩, p3, p4⟩ := ha
  obtain ⟨⟨q1, q2⟩, q3, q4⟩ := hb
  have c0 : 0 ≤ add64Hi a1 b1 0 := by rw [add64_hi p3 q3 (by omega)]; omega
  have c1 : add64Hi a1 b1 0 ≤ 1 := by rw [add64_hi p3 q3 (by omega)]; omega
  have e : wv a0 a1 + wv b0 b1 = (a0 + b0 + add64Hi a1 b1 0) * 18446744073709551616 + add64Lo a1 b1 0 := by
    rw [add64_hi p3 q3 (by omega), add64_lo p3 q3 (by omega)]; unfold wv; omega
  have l0 : 0 ≤ add64Lo a1 b1 0 ∧ add64Lo a1 b1 0 ≤ 18446744073709551615 := by rw [add64_lo p3 q3 (by omega)]; omega
  unfold wide_Add.f
  rw [if_pos c1, e]
  generalize add64Hi a1 b1 0 = c at *
  generalize add64Lo a1 b1 0 = l at *
  simp only [u64_wrap]
  rw [add64_lo (by omega) (by omega) c0]
  have e2 : ((a0 + b0 + c) * 18446744073709551616 + l) / 18446744073709551616 = a0 + b0 + c := by omega
  have e3 : ((a0 + b0 + c) * 18446744073709551616 + l) % 18446744073709551616 = l := by omega
  have e4 : wrap64 ((a0 % 18446744073709551616 + b0 % 18446744073709551616 + c) % 18446744073709551616) = wrap64 (a0 + b0 + c) := by unfold wrap64; omega
  rw [e4]
  unfold wans
  rw [e2, e3]
  have w1 : -9223372036854775808 ≤ a0 + b0 + c ∧ a0 + b0 + c ≤ 9223372036854775807 → wrap64 (a0 + b0 + c) = a0 + b0 + c := by unfold wrap64; omega
  have w2 : a0 + b0 + c < -9223372036854775808 → 0 ≤ wrap64 (a0 + b0 + c) := by unfold wrap64; omega
  have w3 : 9223372036854775807 < a0 + b0 + c → wrap64 (a0 + b0 + c) < 0 := by unfold wrap64; omega
  generalize wrap64 (a0 + b0 + c) = z at *
  simp only [beq_iff_eq, bne_iff_ne, ne_eq, decide_eq_decide]
  (repeat' split) <;> first | rfl | omega | (rw [w1 (by omega)])

theorem Sub_f {a0 a1 b0 b1 : Int} (ha : WB a0 a1) (hb : WB b0 b1) : wide_Sub.f a0 a1 b0 b1 = some (wans (wv a0 a1 - wv b0 b1)) := by
  obtain ⟨⟨p1, p2⟩, p3, p4⟩ := ha
  obtain ⟨⟨q1, q2⟩, q3, q4⟩ := hb
  have c0 : 0 ≤ sub64Hi a1 b1 0 := by rw [sub64_hi ⟨p3, p4⟩ ⟨q3, q4⟩ (by omega)]; omega
  have c1 : sub64Hi a1 b1 0 ≤ 1 := by rw [sub64_hi ⟨p3, p4⟩ ⟨q3, q4⟩ (by omega)]; omega
  have e : wv a0 a1 - wv b0 b1 = (a0 - b0 - sub64Hi a1 b1 0) * 18446744073709551616 + sub64Lo a1 b1 0 := by
    rw [sub64_hi ⟨p3, p4⟩ ⟨q3, q4⟩ (by omega), sub64_lo p3 ⟨q3, q4⟩ (by omega)]; unfold wv; omega
  have l0 : 0 ≤ sub64Lo a1 b1 0 ∧ sub64Lo a1 b1 0 ≤ 18446744073709551615 := by rw [sub64_lo p3 ⟨q3, q4⟩ (by omega)]; omega
  unfold wide_Sub.f
  rw [if_pos c1, e]
  generalize sub64Hi a1 b1 0 = c at *
  generalize sub64Lo a1 b1 0 = l at *
  simp only [u64_wrap]
  rw [sub64_lo (by omega) (by omega) ⟨c0, c1⟩]
  have e2 : ((a0 - b0 - c) * 18446744073709551616 + l) / 18446744073709551616 = a0 - b0 - c := by omega
  have e3 : ((a0 - b0 - c) * 18446744073709551616 + l) % 18446744073709551616 = l := by omega
  have e4 : wrap64 ((a0 % 18446744073709551616 - b0 % 18446744073709551616 - c) % 18446744073709551616) = wrap64 (a0 - b0 - c) := by unfold wrap64; omega
  rw [e4]
  unfold wans
  rw [e2, e3]
  have w1 : -9223372036854775808 ≤ a0 - b0 - c ∧ a0 - b0 - c ≤ 9223372036854775807 → wrap64 (a0 - b0 - c) = a0 - b0 - c := by unfold wrap64; omega
  have w2 : a0 - b0 - c < -9223372036854775808 → 0 ≤ wrap64 (a0 - b0 - c) := by unfold wrap64; omega
  have w3 : 9223372036854775807 < a0 - b0 - c → wrap64 (a0 - b0 - c) < 0 := by unfold wrap64; omega
  generalize wrap64 (a0 - b0 - c) = z at *
  simp only [beq_iff_eq, bne_iff_ne, ne_eq, decide_eq_decide]
  (repeat' split) <;> first | rfl | omega | (rw [w1 (by omega)])

theorem WB_zero : WB 0 0 := by unfold WB; omega
theorem Neg_f {a0 a1 : Int} (ha : WB a0 a1) : wide_Neg.f a0 a1 = some (wans (-wv a0 a1)) := by
  unfold wide_Neg.f
  rw [Sub_f WB_zero ha, show wv 0 0 - wv a0 a1 = -wv a0 a1 from by unfold wv; omega]
  rfl
theorem Of_f {a : Int} (h : -9223372036854775808 ≤ a ∧ a ≤ 9223372036854775807) : wide_Of.f a = some (a / 18446744073709551616, a % 18446744073709551616) := by
  unfold wide_Of.f
  rw [u64_wrap, show a / 9223372036854775808 = a / 18446744073709551616 from by omega]
theorem WB_of {a : Int} (h : -9223372036854775808 ≤ a ∧ a ≤ 9223372036854775807) : WB (a / 18446744073709551616) (a % 18446744073709551616) := by unfold WB; omega
def cmpv (a b : Int) : Int := if a < b then -1 else if a = b then 0 else 1
theorem cmpv_cases (a b : Int) : (a < b ∧ cmpv a b = -1) ∨ (a = b ∧ cmpv a b = 0) ∨ (b < a ∧ cmpv a b = 1) := by
  unfold cmpv
  (repeat' split) <;> omega
theorem Cmp_f {a0 a1 b0 b1 : Int} (ha : WB a0 a1) (hb : WB b0 b1) : wide_Cmp.f a0 a1 b0 b1 = some (cmpv (wv a0 a1) (wv b0 b1)) := by
  obtain ⟨⟨p1, p2⟩, p3, p4⟩ := ha
  obtain ⟨⟨q1, q2⟩, q3, q4⟩ := hb
  unfold wide_Cmp.f cmpv wv
  simp only [Bool.and_eq_true, beq_iff_eq]
  (repeat' split) <;> first | rfl | omega
theorem awake_f : octroilaw01_awake.f = some true := by
  unfold octroilaw01_awake.f
  have h1 := Of_f (a := 1) (by omega)
  have h2 := Of_f (a := -1) (by omega)
  have h3 := Add_f (a0 := 0) (a1 := 18446744073709551615) (b0 := 0) (b1 := 1) (by unfold WB; omega) (by unfold WB; omega)
  have h4 := Neg_f (a0 := -9223372036854775808) (a1 := 0) (by unfold WB; omega)
  have h5 := Cmp_f (a0 := -1) (a1 := 18446744073709551615) (b0 := 0) (b1 := 1) (by unfold WB; omega) (by unfold WB; omega)
  simp only [h1, Option.bind_some]
  rw [show (1 : Int) / 18446744073709551616 = 0 from by decide, show (1 : Int) % 18446744073709551616 = 1 from by decide, h3]
  simp only [Option.bind_some]
  rw [h4]
  simp only [Option.bind_some, h2]
  rw [show (-1 : Int) / 18446744073709551616 = -1 from by decide, show (-1 : Int) % 18446744073709551616 = 18446744073709551615 from by decide, h5]
  decide

def ws (l : List S26) : Int := (l.map fun x => wv x.f0 x.f1).sum
theorem ws_nil : ws [] = 0 := rfl
theorem ws_cons (x : S26) (l : List S26) : ws (x :: l) = wv x.f0 x.f1 + ws l := by simp [ws]
theorem ws_append (a b : List S26) : ws (a ++ b) = ws a + ws b := by simp [ws]
theorem ws_reverse (a : List S26) : ws a.reverse = ws a := by simp [ws]
theorem rd_at (l : List S26) (j : Nat) (h : j < l.length) : rd_T26 l (j : Int) = l[j] := by
  unfold rd_T26
  rw [Int.toNat_natCast, List.getD_eq_getElem?_getD, List.getElem?_eq_getElem h]
  rfl
theorem wrap64_in {n : Int} (h : -9223372036854775808 ≤ n ∧ n ≤ 9223372036854775807) : wrap64 n = n := by unfold wrap64; omega

theorem Sum_end (lo hi top : Int) (hlo : 0 ≤ lo ∧ lo ≤ 18446744073709551615) (hhi : 0 ≤ hi ∧ hi ≤ 18446744073709551615) :
    (if top = wrap64 hi / 9223372036854775808 then some (wrap64 hi, lo, (0 : Int)) else some (0, 0, 10)) = some (wans (top * 340282366920938463463374607431768211456 + hi * 18446744073709551616 + lo)) := by
  unfold wans wrap64
  split
  · rw [if_pos (by omega)]
    congr 3 <;> omega
  · rw [if_neg (by omega)]

theorem Sum_l0 (l : List S26) (hl : l.length ≤ 8796093022208) (hq : ∀ x ∈ l, WB x.f0 x.f1) : ∀ (d j k : Nat) (lo hi top : Int), j + d = l.length → 0 ≤ lo ∧ lo ≤ 18446744073709551615 → 0 ≤ hi ∧ hi ≤ 18446744073709551615 → -(j : Int) ≤ top ∧ top ≤ j →
    wide_Sum.l0 (k + 1 + d) lo hi top l (l.length : Int) (j : Int) = some (wans (top * 340282366920938463463374607431768211456 + hi * 18446744073709551616 + lo + ws (l.drop j))) := by
  intro d
  induction d with
  | zero =>
    intro j k lo hi top hj hlo hhi htop
    rw [Nat.add_zero, wide_Sum.l0, if_neg (by omega), List.drop_of_length_le (by omega), ws_nil, Int.add_zero]
    exact Sum_end lo hi top hlo hhi
  | succ d ih =>
    intro j k lo hi top hj hlo hhi htop
    have hjl : j < l.length := by omega
    obtain ⟨⟨p1, p2⟩, p3, p4⟩ := hq l[j] (List.getElem_mem hjl)
    rw [show k + 1 + (d + 1) = (k + 1 + d) + 1 from by omega, wide_Sum.l0, if_pos (by omega), if_pos (by omega), if_pos (by omega), rd_at l j hjl]
    rw [add64_hi hlo.1 p3 (by omega), add64_lo hlo.1 p3 (by omega)]
    simp only [u64_wrap]
    rw [if_pos (by omega)]
    rw [add64_hi hhi.1 (by omega) (by omega), add64_lo hhi.1 (by omega) (by omega)]
    rw [List.drop_eq_getElem_cons hjl, ws_cons]
    have e0 : wrap64 ((j : Int) + 1) = ((j + 1 : Nat) : Int) := by unfold wrap64; omega
    rw [e0]
    unfold wv
    generalize (l[j]).f0 = h at *
    generalize (l[j]).f1 = w at *
    have ec : 0 ≤ (lo + w + 0) / 18446744073709551616 ∧ (lo + w + 0) / 18446744073709551616 ≤ 1 := by omega
    have el : lo + w = (lo + w + 0) / 18446744073709551616 * 18446744073709551616 + (lo + w + 0) % 18446744073709551616 := by omega
    have el2 : 0 ≤ (lo + w + 0) % 18446744073709551616 ∧ (lo + w + 0) % 18446744073709551616 ≤ 18446744073709551615 := by omega
    generalize (lo + w + 0) / 18446744073709551616 = c at *
    generalize (lo + w + 0) % 18446744073709551616 = lo' at *
    have e2 : 0 ≤ (hi + h % 18446744073709551616 + c) / 18446744073709551616 ∧ (hi + h % 18446744073709551616 + c) / 18446744073709551616 ≤ 1 := by omega
    have eh : hi + h % 18446744073709551616 + c = (hi + h % 18446744073709551616 + c) / 18446744073709551616 * 18446744073709551616 + (hi + h % 18446744073709551616 + c) % 18446744073709551616 := by omega
    have eh2 : 0 ≤ (hi + h % 18446744073709551616 + c) % 18446744073709551616 ∧ (hi + h % 18446744073709551616 + c) % 18446744073709551616 ≤ 18446744073709551615 := by omega
    generalize (hi + h % 18446744073709551616 + c) / 18446744073709551616 = c2 at *
    generalize (hi + h % 18446744073709551616 + c) % 18446744073709551616 = hi' at *
    have es : h / 9223372036854775808 * 18446744073709551616 = h - h % 18446744073709551616 := by omega
    have es2 : -1 ≤ h / 9223372036854775808 ∧ h / 9223372036854775808 ≤ 0 := by omega
    generalize h / 9223372036854775808 = s at *
    rw [wrap64_in (n := c2) (by omega), wrap64_in (n := s + c2) (by omega), wrap64_in (n := top + (s + c2)) (by omega)]
    rw [ih (j + 1) k lo' hi' (top + (s + c2)) (by omega) el2 eh2 (by omega)]
    congr 2
    generalize h % 18446744073709551616 = hm at *
    omega

theorem Sum_f (l : List S26) (hl : l.length ≤ 8796093022208) (hq : ∀ x ∈ l, WB x.f0 x.f1) (k : Nat) (hk : l.length < k) : wide_Sum.f k l = some (wans (ws l)) := by
  unfold wide_Sum.f
  have := Sum_l0 l hl hq l.length 0 (k - 1 - l.length) 0 0 0 (by omega) (by omega) (by omega) (by omega)
  rw [show k - 1 - l.length + 1 + l.length = k from by omega] at this
  rw [show ((0 : Nat) : Int) = 0 from rfl] at this
  rw [this]
  simp

theorem back_l0 (l more : List S26) (hl : l.length ≤ 4096) : ∀ (m k : Nat), m ≤ l.length →
    octroilaw01_WideOrderless.l0 (k + 1 + m) l more (l.drop m).reverse ((m : Int) - 1) = octroilaw01_WideOrderless.l0 (k + 1) l more l.reverse (-1) := by
  intro m
  induction m with
  | zero => intro k _; rfl
  | succ m ih =>
    intro k hm
    rw [show k + 1 + (m + 1) = (k + 1 + m) + 1 from by omega, octroilaw01_WideOrderless.l0, if_pos (by omega), if_pos (by omega), if_pos (by omega), if_pos (by simp; omega)]
    rw [show ((m + 1 : Nat) : Int) - 1 = (m : Int) from by omega, rd_at l m (by omega), wrap64_in (n := (m : Int) - 1) (by omega)]
    rw [← ih k (by omega), List.drop_eq_getElem_cons (show m < l.length by omega), List.reverse_cons]

theorem same_l2 (a : List S26) (ha : a.length ≤ 20000) (x8 h l : Int) : ∀ (d j k : Nat), j + d = a.length → octroilaw01_WideOrderless.l2 (k + 1 + d) a x8 a x8 (j : Int) h l h l = some true := by
  intro d
  induction d with
  | zero =>
    intro j k hj
    rw [Nat.add_zero, octroilaw01_WideOrderless.l2, if_neg (by omega)]
    simp
  | succ d ih =>
    intro j k hj
    rw [show k + 1 + (d + 1) = (k + 1 + d) + 1 from by omega, octroilaw01_WideOrderless.l2, if_pos (by omega), if_pos (by omega), if_pos (by omega)]
    simp only [bne_self_eq_false, beq_self_eq_true, Bool.not_true, Bool.or_self, Bool.false_eq_true, if_false]
    rw [wrap64_in (n := (j : Int) + 1) (by omega)]
    exact ih (j + 1) k (by omega)

theorem more_l1 (more : List S26) (hm : more.length ≤ 4096) (hq : ∀ x ∈ more, WB x.f0 x.f1) (s : Int) : ∀ (d j k : Nat) (acc : List S26), j + d = more.length → acc.length ≤ 4096 + 2 * j → (∀ x ∈ acc, WB x.f0 x.f1) → ws acc = s → 30000 ≤ k →
    octroilaw01_WideOrderless.l1 (k + 1 + d) more acc (wans s).2.2 (j : Int) (wans s).1 (wans s).2.1 = some true := by
  intro d
  induction d with
  | zero =>
    intro j k acc hj hacc hqa hs hk
    rw [Nat.add_zero, octroilaw01_WideOrderless.l1, if_neg (by omega)]
    simp only [Option.bind_some, List.length_nil, Nat.zero_add, List.nil_append]
    rw [if_pos (by omega), Sum_f acc (by omega) hqa k (by omega), hs]
    simp only [Option.bind_some]
    have := same_l2 acc (by omega) (wans s).2.2 (wans s).1 (wans s).2.1 acc.length 0 (k - 1 - acc.length) (by omega)
    rw [show k - 1 - acc.length + 1 + acc.length = k from by omega] at this
    exact this
  | succ d ih =>
    intro j k acc hj hacc hqa hs hk
    have hjl : j < more.length := by omega
    have hx := hq more[j] (List.getElem_mem hjl)
    rw [show k + 1 + (d + 1) = (k + 1 + d) + 1 from by omega, octroilaw01_WideOrderless.l1, if_pos (by omega), if_pos (by omega), rd_at more j hjl, Neg_f hx]
    simp only [Option.bind_some]
    rw [wrap64_in (n := (j : Int) + 1) (by omega)]
    by_cases h : -170141183460469231731687303715884105728 ≤ -wv (more[j]).f0 (more[j]).f1 ∧ -wv (more[j]).f0 (more[j]).f1 ≤ 170141183460469231731687303715884105727
    · rw [wans_in h]
      simp only [if_true, List.length_cons, List.length_nil]
      rw [if_pos (by omega)]
      refine ih (j + 1) k _ (by omega) (by simp; omega) ?_ ?_ hk
      · intro x hx'
        rcases List.mem_append.1 hx' with h1 | h1
        · exact hqa x h1
        · simp only [List.mem_cons, List.not_mem_nil, or_false] at h1
          rcases h1 with rfl | rfl
          · exact hx
          · have := wans_WB (-wv (more[j]).f0 (more[j]).f1)
            rw [wans_in h] at this
            exact this
      · rw [ws_append, ws_cons, ws_cons, ws_nil, hs]
        simp only [wv_of]
        omega
    · rw [wans_out h]
      simp only [show ¬ ((10 : Int) = 0) from by decide, if_false]
      exact ih (j + 1) k acc (by omega) (by omega) hqa hs hk

theorem at_j0 (l more : List S26) (hl : l.length ≤ 4096) (hm : more.length ≤ 4096) (hq : ∀ x ∈ l, WB x.f0 x.f1) (hqm : ∀ x ∈ more, WB x.f0 x.f1) (k : Nat) (hk : 60000 ≤ k) : octroilaw01_WideOrderless.j0 (k + 1) l more false = some true := by
  rw [octroilaw01_WideOrderless.j0]
  simp only [Bool.false_eq_true, if_false]
  rw [wrap64_in (n := (l.length : Int) - 1) (by omega)]
  have h1 := back_l0 l more hl l.length (k - 1 - l.length) (Nat.le_refl _)
  rw [show k - 1 - l.length + 1 + l.length = k from by omega, List.drop_length, List.reverse_nil] at h1
  rw [h1, octroilaw01_WideOrderless.l0, if_neg (by omega)]
  rw [Sum_f l (by omega) hq _ (by omega), Sum_f l.reverse (by simp; omega) (by simpa using hq) _ (by simp; omega), ws_reverse]
  simp only [Option.bind_some, bne_self_eq_false, beq_self_eq_true, Bool.not_true, Bool.or_self, Bool.false_eq_true, if_false]
  rw [show k - 1 - l.length = (k - 2 - l.length) + 1 from by omega, octroilaw01_WideOrderless.j2]
  simp only [Bool.false_eq_true, if_false]
  have := more_l1 more hm hqm (ws l) more.length 0 (k - 3 - l.length - more.length) l.reverse (by omega) (by simp; omega) (by simpa using hq) (ws_reverse l) (by omega)
  rw [show k - 3 - l.length - more.length + 1 + more.length = k - 2 - l.length from by omega] at this
  exact this

theorem WideOrderless_pure : WideOrderless.Pure := by
  intro l more hl hm
  obtain ⟨hl0, hq⟩ := hl
  obtain ⟨hm0, hqm⟩ := hm
  refine ⟨60000 + 1, ?_⟩
  have t : ∀ k, octroilaw01_WideOrderless.j0 (k + 1) l more true = some true := fun k => by rw [octroilaw01_WideOrderless.j0]; rfl
  unfold octroilaw01_WideOrderless.f
  rw [awake_f, Option.bind_some, if_pos rfl]
  by_cases h1 : (l.length : Int) > 4096
  · rw [if_pos h1]
    exact t _
  · rw [if_neg h1]
    by_cases h2 : (more.length : Int) > 4096
    · rw [decide_eq_true h2]
      exact t _
    · rw [decide_eq_false h2]
      exact at_j0 l more (by omega) (by omega) hq hqm _ (Nat.le_refl _)

end Go.Proofs.Ytehmkffmnaabaaa.PWideOrderless
