/-
  Contracts of package wide's functions: what each answers, as one number of 128 bits. No condition but that words are words (else the printed function is none).
-/
import Derived.Test.YtieeaicdpdidpaaExt
import Derived.Test.YtieeaicdpdidpaaWPlain
import Derived.Test.YtieeaicdpdidpaaWWords
import Derived.Test.YtieeaicdpdidpaaWEqStruct
import Derived.WalkKit
import Derived.Below
import Derived.RowKit3
import Derived.Deep.LoopGhost
import Derived.Deep.OwnRows
import Derived.Deep.QuietTactic
import Derived.BigQuiet
import Derived.Lib.Hide
import Derived.Laws.Bits64
namespace Go.Proofs.Ytieeaicdpdidpaa.WF
open Go.RowKit Go.Proofs.YtieeaicdpdidpaaW.PrintWords
set_option linter.unusedVariables false
set_option linter.unusedSimpArgs false
attribute [local go_sem] run_add64 run_sub64
theorem below_next {w X w2 : World} (h : Below w.heap.size w X) (k : Below X.heap.size X w2) : Below w.heap.size w w2 := below_then h h.size k
theorem bcell {W w1 : World} (hb : Below W.heap.size W w1) : (∀ b o, b < W.heap.size → w1.cell? ⟨b, o, none⟩ = W.cell? ⟨b, o, none⟩) ∧ (∀ b o, b < W.heap.size → w1.frozen? ⟨b, o, none⟩ = W.frozen? ⟨b, o, none⟩) :=
  ⟨fun b o h => hb.cell (p := ⟨b, o, none⟩) h, fun b o h => hb.frozen (p := ⟨b, o, none⟩) h⟩
instance (h l : Int) : Decidable (WB h l) := by unfold WB; infer_instance
set_option maxHeartbeats 4000000 in
set_option maxRecDepth 100000 in
theorem Add_w (a0_0 a0_1 a1_0 a1_1 r1 r2 r3 : Int) (w : World) (x y z : Bool) (c : decide (add64Hi a0_1 a1_1 0 ≤ 1) = true) (hx : decide (a0_0 < 0) = x) (hy : decide (a1_0 < 0) = y) (hz : decide ((wrap64 (add64Lo (IntKind.u64.wrap a0_0) (IntKind.u64.wrap a1_0) (add64Hi a0_1 a1_1 0))) < 0) = z)
    (hr : (bif (x == y) && (z != x) then ((0 : Int), (0 : Int), (10 : Int)) else ((wrap64 (add64Lo (IntKind.u64.wrap a0_0) (IntKind.u64.wrap a1_0) (add64Hi a0_1 a1_1 0))), (add64Lo a0_1 a1_1 0), 0)) = (r1, r2, r3)) :
    Calls Try.prog 21 #[.agg #[.int .i64 a0_0, .int .u64 a0_1], .agg #[.int .i64 a1_0, .int .u64 a1_1]] w fun e w' => e = .returned (.tuple #[.agg #[.int .i64 r1, .int .u64 r2], .int .i64 r3]) ∧ Below w.heap.size w w' := by
  cases x <;> cases y <;> cases z <;> (obtain ⟨rfl, rfl, rfl⟩ := by simpa using hr) <;> clear hr <;> go_enter Try.func21, Try.ntmps21 <;> go_wp2 <;> exact bodyPost_ret (by simp [results, Try.results21, go_sem]) rfl ⟨rfl, by repeat (with_reducible first | apply pw_below_drewN | apply below_drew1 | apply below_alloc | exact Below.refl _ _ | (refine below_set ?_ (by first | omega | (simp; omega))) | (refine below_next ?_ hb))⟩
theorem Add_core {a0 a1 b0 b1 : Int} (ha : WB a0 a1) (hb : WB b0 b1) :
    add64Hi a1 b1 0 ≤ 1 ∧ (bif (decide (a0 < 0) == decide (b0 < 0)) && (decide (wrap64 (add64Lo (IntKind.u64.wrap a0) (IntKind.u64.wrap b0) (add64Hi a1 b1 0)) < 0) != decide (a0 < 0)) then ((0 : Int), (0 : Int), (10 : Int)) else (wrap64 (add64Lo (IntKind.u64.wrap a0) (IntKind.u64.wrap b0) (add64Hi a1 b1 0)), add64Lo a1 b1 0, 0)) = wans (wv a0 a1 + wv b0 b1) := by
  obtain ⟨⟨p1, p2⟩, p3, p4⟩ := ha
  obtain ⟨⟨q1, q2⟩, q3, q4⟩ := hb
  have c0 : 0 ≤ add64Hi a1 b1 0 := by rw [add64_hi p3 q3 (by omega)]; omega
  have c1 : add64Hi a1 b1 0 ≤ 1 := by rw [add64_hi p3 q3 (by omega)]; omega
  have e : wv a0 a1 + wv b0 b1 = (a0 + b0 + add64Hi a1 b1 0) * 18446744073709551616 + add64Lo a1 b1 0 := by
    rw [add64_hi p3 q3 (by omega), add64_lo p3 q3 (by omega)]; unfold wv; omega
  have l0 : 0 ≤ add64Lo a1 b1 0 ∧ add64Lo a1 b1 0 ≤ 18446744073709551615 := by rw [add64_lo p3 q3 (by omega)]; omega
  refine ⟨c1, ?_⟩
  rw [e]
  generalize add64Hi a1 b1 0 = c at *
  generalize add64Lo a1 b1 0 = l at *
  simp only [u64_wrap]
  rw [add64_lo (by omega) (by omega) c0]
  have e4 : wrap64 ((a0 % 18446744073709551616 + b0 % 18446744073709551616 + c) % 18446744073709551616) = wrap64 (a0 + b0 + c) := by unfold wrap64; omega
  rw [e4]
  unfold wans
  rw [show ((a0 + b0 + c) * 18446744073709551616 + l) / 18446744073709551616 = a0 + b0 + c from by omega, show ((a0 + b0 + c) * 18446744073709551616 + l) % 18446744073709551616 = l from by omega]
  have w1 : -9223372036854775808 ≤ a0 + b0 + c ∧ a0 + b0 + c ≤ 9223372036854775807 → wrap64 (a0 + b0 + c) = a0 + b0 + c := by unfold wrap64; omega
  have w2 : a0 + b0 + c < -9223372036854775808 → 0 ≤ wrap64 (a0 + b0 + c) := by unfold wrap64; omega
  have w3 : 9223372036854775807 < a0 + b0 + c → wrap64 (a0 + b0 + c) < 0 := by unfold wrap64; omega
  generalize wrap64 (a0 + b0 + c) = z at *
  rw [Bool.cond_eq_ite]
  simp only [Bool.and_eq_true, beq_iff_eq, bne_iff_ne, ne_eq, decide_eq_decide]
  (repeat' split) <;> first | rfl | omega | (rw [w1 (by omega)])
def Add.f (a0_0 a0_1 a1_0 a1_1 : Int) : Option (Int × Int × Int) := if WB a0_0 a0_1 ∧ WB a1_0 a1_1 then some (wans (wv a0_0 a0_1 + wv a1_0 a1_1)) else none
theorem Add.calls (a0_0 a0_1 a1_0 a1_1 r1 r2 r3 : Int) (w : World) (h : Add.f a0_0 a0_1 a1_0 a1_1 = some (r1, r2, r3)) :
    Calls Try.prog 21 #[.agg #[.int .i64 a0_0, .int .u64 a0_1], .agg #[.int .i64 a1_0, .int .u64 a1_1]] w fun e w' => e = .returned (.tuple #[.agg #[.int .i64 r1, .int .u64 r2], .int .i64 r3]) ∧ Below w.heap.size w w' := by
  unfold Add.f at h
  split at h
  · rename_i hb
    have hc := Add_core hb.1 hb.2
    exact Add_w _ _ _ _ _ _ _ w _ _ _ (decide_eq_true hc.1) rfl rfl rfl (hc.2.trans (Option.some.inj h))
  · cases h
theorem Add_f {a0 a1 b0 b1 : Int} (ha : WB a0 a1) (hb : WB b0 b1) : Add.f a0 a1 b0 b1 = some (wans (wv a0 a1 + wv b0 b1)) := if_pos ⟨ha, hb⟩
set_option maxHeartbeats 4000000 in
set_option maxRecDepth 100000 in
theorem Sub_w (a0_0 a0_1 a1_0 a1_1 r1 r2 r3 : Int) (w : World) (x y z : Bool) (c : decide (sub64Hi a0_1 a1_1 0 ≤ 1) = true) (hx : decide (a0_0 < 0) = x) (hy : decide (a1_0 < 0) = y) (hz : decide ((wrap64 (sub64Lo (IntKind.u64.wrap a0_0) (IntKind.u64.wrap a1_0) (sub64Hi a0_1 a1_1 0))) < 0) = z)
    (hr : (bif (x != y) && (z != x) then ((0 : Int), (0 : Int), (10 : Int)) else ((wrap64 (sub64Lo (IntKind.u64.wrap a0_0) (IntKind.u64.wrap a1_0) (sub64Hi a0_1 a1_1 0))), (sub64Lo a0_1 a1_1 0), 0)) = (r1, r2, r3)) :
    Calls Try.prog 24 #[.agg #[.int .i64 a0_0, .int .u64 a0_1], .agg #[.int .i64 a1_0, .int .u64 a1_1]] w fun e w' => e = .returned (.tuple #[.agg #[.int .i64 r1, .int .u64 r2], .int .i64 r3]) ∧ Below w.heap.size w w' := by
  cases x <;> cases y <;> cases z <;> (obtain ⟨rfl, rfl, rfl⟩ := by simpa using hr) <;> clear hr <;> go_enter Try.func24, Try.ntmps24 <;> go_wp2 <;> exact bodyPost_ret (by simp [results, Try.results24, go_sem]) rfl ⟨rfl, by repeat (with_reducible first | apply pw_below_drewN | apply below_drew1 | apply below_alloc | exact Below.refl _ _ | (refine below_set ?_ (by first | omega | (simp; omega))) | (refine below_next ?_ hb))⟩
theorem Sub_core {a0 a1 b0 b1 : Int} (ha : WB a0 a1) (hb : WB b0 b1) :
    sub64Hi a1 b1 0 ≤ 1 ∧ (bif (decide (a0 < 0) != decide (b0 < 0)) && (decide (wrap64 (sub64Lo (IntKind.u64.wrap a0) (IntKind.u64.wrap b0) (sub64Hi a1 b1 0)) < 0) != decide (a0 < 0)) then ((0 : Int), (0 : Int), (10 : Int)) else (wrap64 (sub64Lo (IntKind.u64.wrap a0) (IntKind.u64.wrap b0) (sub64Hi a1 b1 0)), sub64Lo a1 b1 0, 0)) = wans (wv a0 a1 - wv b0 b1) := by
  obtain ⟨⟨p1, p2⟩, p3, p4⟩ := ha
  obtain ⟨⟨q1, q2⟩, q3, q4⟩ := hb
  have c0 : 0 ≤ sub64Hi a1 b1 0 := by rw [sub64_hi ⟨p3, p4⟩ ⟨q3, q4⟩ (by omega)]; omega
  have c1 : sub64Hi a1 b1 0 ≤ 1 := by rw [sub64_hi ⟨p3, p4⟩ ⟨q3, q4⟩ (by omega)]; omega
  have e : wv a0 a1 - wv b0 b1 = (a0 - b0 - sub64Hi a1 b1 0) * 18446744073709551616 + sub64Lo a1 b1 0 := by
    rw [sub64_hi ⟨p3, p4⟩ ⟨q3, q4⟩ (by omega), sub64_lo p3 ⟨q3, q4⟩ (by omega)]; unfold wv; omega
  have l0 : 0 ≤ sub64Lo a1 b1 0 ∧ sub64Lo a1 b1 0 ≤ 18446744073709551615 := by rw [sub64_lo p3 ⟨q3, q4⟩ (by omega)]; omega
  refine ⟨c1, ?_⟩
  rw [e]
  generalize sub64Hi a1 b1 0 = c at *
  generalize sub64Lo a1 b1 0 = l at *
  simp only [u64_wrap]
  rw [sub64_lo (by omega) (by omega) ⟨c0, c1⟩]
  have e4 : wrap64 ((a0 % 18446744073709551616 - b0 % 18446744073709551616 - c) % 18446744073709551616) = wrap64 (a0 - b0 - c) := by unfold wrap64; omega
  rw [e4]
  unfold wans
  rw [show ((a0 - b0 - c) * 18446744073709551616 + l) / 18446744073709551616 = a0 - b0 - c from by omega, show ((a0 - b0 - c) * 18446744073709551616 + l) % 18446744073709551616 = l from by omega]
  have w1 : -9223372036854775808 ≤ a0 - b0 - c ∧ a0 - b0 - c ≤ 9223372036854775807 → wrap64 (a0 - b0 - c) = a0 - b0 - c := by unfold wrap64; omega
  have w2 : a0 - b0 - c < -9223372036854775808 → 0 ≤ wrap64 (a0 - b0 - c) := by unfold wrap64; omega
  have w3 : 9223372036854775807 < a0 - b0 - c → wrap64 (a0 - b0 - c) < 0 := by unfold wrap64; omega
  generalize wrap64 (a0 - b0 - c) = z at *
  rw [Bool.cond_eq_ite]
  simp only [Bool.and_eq_true, beq_iff_eq, bne_iff_ne, ne_eq, decide_eq_decide]
  (repeat' split) <;> first | rfl | omega | (rw [w1 (by omega)])
def Sub.f (a0_0 a0_1 a1_0 a1_1 : Int) : Option (Int × Int × Int) := if WB a0_0 a0_1 ∧ WB a1_0 a1_1 then some (wans (wv a0_0 a0_1 - wv a1_0 a1_1)) else none
theorem Sub.calls (a0_0 a0_1 a1_0 a1_1 r1 r2 r3 : Int) (w : World) (h : Sub.f a0_0 a0_1 a1_0 a1_1 = some (r1, r2, r3)) :
    Calls Try.prog 24 #[.agg #[.int .i64 a0_0, .int .u64 a0_1], .agg #[.int .i64 a1_0, .int .u64 a1_1]] w fun e w' => e = .returned (.tuple #[.agg #[.int .i64 r1, .int .u64 r2], .int .i64 r3]) ∧ Below w.heap.size w w' := by
  unfold Sub.f at h
  split at h
  · rename_i hb
    have hc := Sub_core hb.1 hb.2
    exact Sub_w _ _ _ _ _ _ _ w _ _ _ (decide_eq_true hc.1) rfl rfl rfl (hc.2.trans (Option.some.inj h))
  · cases h
theorem Sub_f {a0 a1 b0 b1 : Int} (ha : WB a0 a1) (hb : WB b0 b1) : Sub.f a0 a1 b0 b1 = some (wans (wv a0 a1 - wv b0 b1)) := if_pos ⟨ha, hb⟩
theorem WB_zero : WB 0 0 := by unfold WB; omega
theorem wv_zero : wv 0 0 = 0 := by unfold wv; omega
set_option maxHeartbeats 4000000 in
set_option maxRecDepth 100000 in
theorem Neg_w (a0_0 a0_1 r1 r2 r3 : Int) (w : World) (h : Sub.f 0 0 a0_0 a0_1 = some (r1, r2, r3)) :
    Calls Try.prog 43 #[.agg #[.int .i64 a0_0, .int .u64 a0_1]] w fun e w' => e = .returned (.tuple #[.agg #[.int .i64 r1, .int .u64 r2], .int .i64 r3]) ∧ Below w.heap.size w w' := by
  have HS := fun W => Lib.hid (Sub.calls 0 0 a0_0 a0_1 r1 r2 r3 W h)
  clear h
  go_enter Try.func43, Try.ntmps43
  go_wp2_with fail
  refine ((HS _).out).mono ?_
  rintro e w1 ⟨rfl, hb⟩
  obtain ⟨hc1, hf1⟩ := bcell hb
  have hz1 : w.heap.size + 1 < w1.heap.size := (by have := hb.size; simp at this; omega)
  have hz0 : w.heap.size < w1.heap.size := (by omega)
  go_wp2_with fail
  exact bodyPost_ret (by simp [results, Try.results43, go_sem, hc1, hz1, hz0]) rfl ⟨rfl, by repeat (with_reducible first | apply pw_below_drewN | apply below_drew1 | apply below_alloc | exact Below.refl _ _ | (refine below_set ?_ (by first | omega | (simp; omega))) | (refine below_next ?_ hb))⟩
def Neg.f (a0_0 a0_1 : Int) : Option (Int × Int × Int) := if WB a0_0 a0_1 then some (wans (-wv a0_0 a0_1)) else none
theorem Neg.calls (a0_0 a0_1 r1 r2 r3 : Int) (w : World) (h : Neg.f a0_0 a0_1 = some (r1, r2, r3)) :
    Calls Try.prog 43 #[.agg #[.int .i64 a0_0, .int .u64 a0_1]] w fun e w' => e = .returned (.tuple #[.agg #[.int .i64 r1, .int .u64 r2], .int .i64 r3]) ∧ Below w.heap.size w w' := by
  unfold Neg.f at h
  split at h
  · rename_i hb
    refine Neg_w _ _ _ _ _ w ?_
    rw [Sub_f WB_zero hb, wv_zero, Int.zero_sub]
    exact h
  · cases h
theorem Neg_f {a0 a1 : Int} (ha : WB a0 a1) : Neg.f a0 a1 = some (wans (-wv a0 a1)) := if_pos ha
theorem eqW (d : Nat) (w : World) (x0 y0 : Int) (x1 y1 : Int) :
    (Op.equalIn (d + 2) 26 (.agg #[.int .i64 x0, .int .u64 x1]) (.agg #[.int .i64 y0, .int .u64 y1])).run Try.prog w = .ok (x0 == y0 && (x1 == y1)) w := by
  refine eqA_of Try.underlying26 (by kernel_rfl) ?_
  refine eqf_cons (by rfl) (by go_simp; rfl) (by go_simp; rfl) (by go_simp) ?_
  exact eqf_last (by rfl) (by go_simp; rfl) (by go_simp; rfl) (by go_simp)
attribute [local go_sem high] eqW
def cmpv (a b : Int) : Int := if a < b then -1 else if a = b then 0 else 1
theorem cmpv_cases (a b : Int) : (a < b ∧ cmpv a b = -1) ∨ (a = b ∧ cmpv a b = 0) ∨ (b < a ∧ cmpv a b = 1) := by
  unfold cmpv
  (repeat' split) <;> omega
def sgnv (v : Int) : Int := if v < 0 then -1 else if v = 0 then 0 else 1
theorem sgnv_cases (v : Int) : (v < 0 ∧ sgnv v = -1) ∨ (v = 0 ∧ sgnv v = 0) ∨ (0 < v ∧ sgnv v = 1) := by
  unfold sgnv
  (repeat' split) <;> omega
def wabs (v : Int) : Int := if v < 0 then -v else v
theorem wabs_in {h l : Int} (b : WB h l) : 0 ≤ wabs (wv h l) ∧ wabs (wv h l) ≤ 170141183460469231731687303715884105728 := by
  have := wv_in b
  unfold wabs
  split <;> omega
set_option maxHeartbeats 4000000 in
set_option maxRecDepth 100000 in
theorem Of_w (a0 : Int) (w : World) :
    Calls Try.prog 20 #[.int .i64 a0] w fun e w' => e = .returned (.agg #[.int .i64 (a0 / 9223372036854775808), .int .u64 (IntKind.u64.wrap a0)]) ∧ Below w.heap.size w w' := by
  go_enter Try.func20, Try.ntmps20
  go_wp2
  exact bodyPost_ret (by simp [results, Try.results20, go_sem]) rfl ⟨rfl, by repeat (with_reducible first | apply pw_below_drewN | apply below_drew1 | apply below_alloc | exact Below.refl _ _ | (refine below_set ?_ (by first | omega | (simp; omega))) | (refine below_next ?_ hb))⟩
def Of.f (a0 : Int) : Option (Int × Int) := if -9223372036854775808 ≤ a0 ∧ a0 ≤ 9223372036854775807 then some (a0 / 18446744073709551616, a0 % 18446744073709551616) else none
theorem Of.calls (a0 r1 r2 : Int) (w : World) (h : Of.f a0 = some (r1, r2)) :
    Calls Try.prog 20 #[.int .i64 a0] w fun e w' => e = .returned (.agg #[.int .i64 r1, .int .u64 r2]) ∧ Below w.heap.size w w' := by
  unfold Of.f at h
  split at h
  · have := Of_w a0 w
    obtain ⟨rfl, rfl⟩ := by simpa only [Option.some.injEq, Prod.mk.injEq] using h
    rw [u64_wrap, show a0 / 9223372036854775808 = a0 / 18446744073709551616 from by omega] at this
    exact this
  · cases h
theorem Of_f {a : Int} (h : -9223372036854775808 ≤ a ∧ a ≤ 9223372036854775807) : Of.f a = some (a / 18446744073709551616, a % 18446744073709551616) := if_pos h
theorem WB_of {a : Int} (h : -9223372036854775808 ≤ a ∧ a ≤ 9223372036854775807) : WB (a / 18446744073709551616) (a % 18446744073709551616) := by unfold WB; omega
set_option maxHeartbeats 4000000 in
set_option maxRecDepth 100000 in
theorem Sign_w (a0_0 a0_1 r : Int) (w : World) (x y z : Bool) (hx : decide (a0_0 < 0) = x) (hy : (a0_0 == 0) = y) (hz : (a0_1 == 0) = z) (hr : (bif x then (-1 : Int) else bif y && z then 0 else 1) = r) :
    Calls Try.prog 22 #[.agg #[.int .i64 a0_0, .int .u64 a0_1]] w fun e w' => e = .returned (.int .i64 r) ∧ Below w.heap.size w w' := by
  cases x <;> cases y <;> cases z <;> (obtain rfl := by simpa using hr) <;> clear hr <;> go_enter Try.func22, Try.ntmps22 <;> go_wp2 <;> (go_ret; exact ⟨rfl, by repeat (with_reducible first | apply pw_below_drewN | apply below_drew1 | apply below_alloc | exact Below.refl _ _ | (refine below_set ?_ (by first | omega | (simp; omega))) | (refine below_next ?_ hb))⟩)
def Sign.f (a0_0 a0_1 : Int) : Option (Int) := if WB a0_0 a0_1 then some (sgnv (wv a0_0 a0_1)) else none
theorem Sign.calls (a0_0 a0_1 r : Int) (w : World) (h : Sign.f a0_0 a0_1 = some r) :
    Calls Try.prog 22 #[.agg #[.int .i64 a0_0, .int .u64 a0_1]] w fun e w' => e = .returned (.int .i64 r) ∧ Below w.heap.size w w' := by
  unfold Sign.f at h
  split at h
  · rename_i hb
    refine Sign_w _ _ _ w _ _ _ rfl rfl rfl (Eq.trans ?_ (Option.some.inj h))
    obtain ⟨⟨p1, p2⟩, p3, p4⟩ := hb
    unfold sgnv wv
    simp only [Bool.cond_eq_ite, Bool.and_eq_true, beq_iff_eq, decide_eq_true_eq]
    (repeat' split) <;> omega
  · cases h
theorem Sign_f {a0 a1 : Int} (ha : WB a0 a1) : Sign.f a0 a1 = some (sgnv (wv a0 a1)) := if_pos ha
set_option maxHeartbeats 4000000 in
set_option maxRecDepth 100000 in
theorem Abs_w0 (a0_0 a0_1 : Int) (w : World) (h0 : 0 ≤ a0_0) (h1 : a0_0 ≤ 9223372036854775807) :
    Calls Try.prog 25 #[.agg #[.int .i64 a0_0, .int .u64 a0_1]] w fun e w' => e = .returned (.tuple #[.int .u64 a0_0, .int .u64 a0_1]) ∧ Below w.heap.size w w' := by
  have hd : decide (0 ≤ a0_0) = true := decide_eq_true h0
  go_enter Try.func25, Try.ntmps25
  go_wp2
  go_quiet (fail)
  go_wp2
  go_ret2
  exact ⟨rfl, by repeat (with_reducible first | apply pw_below_drewN | apply below_drew1 | apply below_alloc | exact Below.refl _ _ | (refine below_set ?_ (by first | omega | (simp; omega))) | (refine below_next ?_ hb))⟩
set_option maxHeartbeats 4000000 in
set_option maxRecDepth 100000 in
theorem Abs_w1 (a0_0 a0_1 : Int) (w : World) (h0 : a0_0 < 0) (c : decide (sub64Hi 0 a0_1 0 ≤ 1) = true) :
    Calls Try.prog 25 #[.agg #[.int .i64 a0_0, .int .u64 a0_1]] w fun e w' => e = .returned (.tuple #[.int .u64 (sub64Lo 0 (IntKind.u64.wrap a0_0) (sub64Hi 0 a0_1 0)), .int .u64 (sub64Lo 0 a0_1 0)]) ∧ Below w.heap.size w w' := by
  have hd : decide (0 ≤ a0_0) = false := decide_eq_false (by omega)
  go_enter Try.func25, Try.ntmps25
  go_wp2
  go_ret2
  exact ⟨rfl, by repeat (with_reducible first | apply pw_below_drewN | apply below_drew1 | apply below_alloc | exact Below.refl _ _ | (refine below_set ?_ (by first | omega | (simp; omega))) | (refine below_next ?_ hb))⟩
def Abs.f (a0_0 a0_1 : Int) : Option (Int × Int) := if WB a0_0 a0_1 then some (wabs (wv a0_0 a0_1) / 18446744073709551616, wabs (wv a0_0 a0_1) % 18446744073709551616) else none
theorem Abs.calls (a0_0 a0_1 r1 r2 : Int) (w : World) (h : Abs.f a0_0 a0_1 = some (r1, r2)) :
    Calls Try.prog 25 #[.agg #[.int .i64 a0_0, .int .u64 a0_1]] w fun e w' => e = .returned (.tuple #[.int .u64 r1, .int .u64 r2]) ∧ Below w.heap.size w w' := by
  unfold Abs.f at h
  split at h
  · rename_i hb
    obtain ⟨rfl, rfl⟩ := by simpa only [Option.some.injEq, Prod.mk.injEq] using h
    obtain ⟨⟨p1, p2⟩, p3, p4⟩ := hb
    by_cases h0 : 0 ≤ a0_0
    · have := Abs_w0 a0_0 a0_1 w h0 p2
      rw [show wabs (wv a0_0 a0_1) / 18446744073709551616 = a0_0 from by unfold wabs wv; split <;> omega, show wabs (wv a0_0 a0_1) % 18446744073709551616 = a0_1 from by unfold wabs wv; split <;> omega]
      exact this
    · have c0 : 0 ≤ sub64Hi 0 a0_1 0 := by rw [sub64_hi (by omega) ⟨p3, p4⟩ (by omega)]; omega
      have c1 : sub64Hi 0 a0_1 0 ≤ 1 := by rw [sub64_hi (by omega) ⟨p3, p4⟩ (by omega)]; omega
      have := Abs_w1 a0_0 a0_1 w (by omega) (decide_eq_true c1)
      rw [u64_wrap, sub64_lo (by omega) (by omega) ⟨c0, c1⟩, sub64_hi (by omega) ⟨p3, p4⟩ (by omega), sub64_lo (by omega) ⟨p3, p4⟩ (by omega)] at this
      rw [show wabs (wv a0_0 a0_1) / 18446744073709551616 = (0 - a0_0 % 18446744073709551616 - -((0 - a0_1 - 0) / 18446744073709551616)) % 18446744073709551616 from by unfold wabs wv; split <;> omega, show wabs (wv a0_0 a0_1) % 18446744073709551616 = (0 - a0_1 - 0) % 18446744073709551616 from by unfold wabs wv; split <;> omega]
      exact this
  · cases h
theorem Abs_f {a0 a1 : Int} (ha : WB a0 a1) : Abs.f a0 a1 = some (wabs (wv a0 a1) / 18446744073709551616, wabs (wv a0 a1) % 18446744073709551616) := if_pos ha
set_option maxHeartbeats 4000000 in
set_option maxRecDepth 100000 in
theorem Join_w0 (a1 a2 : Int) (w : World) (h0 : 0 ≤ a1) (h1 : a1 ≤ 9223372036854775807) (hd : (a1 / 9223372036854775808 == 0) = true) :
    Calls Try.prog 29 #[.bool false, .int .u64 a1, .int .u64 a2] w fun e w' => e = .returned (.tuple #[.agg #[.int .i64 a1, .int .u64 a2], .int .i64 0]) ∧ Below w.heap.size w w' := by
  go_enter Try.func29, Try.ntmps29
  go_wp2
  exact bodyPost_ret (by simp [results, Try.results29, go_sem]) rfl ⟨rfl, by repeat (with_reducible first | apply pw_below_drewN | apply below_drew1 | apply below_alloc | exact Below.refl _ _ | (refine below_set ?_ (by first | omega | (simp; omega))) | (refine below_next ?_ hb))⟩
set_option maxHeartbeats 4000000 in
set_option maxRecDepth 100000 in
theorem Join_w1 (a1 a2 r1 r2 r3 : Int) (w : World) (h0 : 0 ≤ a1) (h1 : a1 ≤ 9223372036854775807) (hd : (a1 / 9223372036854775808 == 0) = true) (h : Neg.f a1 a2 = some (r1, r2, r3)) :
    Calls Try.prog 29 #[.bool true, .int .u64 a1, .int .u64 a2] w fun e w' => e = .returned (.tuple #[.agg #[.int .i64 r1, .int .u64 r2], .int .i64 r3]) ∧ Below w.heap.size w w' := by
  have HS := fun W => Lib.hid (Neg.calls a1 a2 r1 r2 r3 W h)
  clear h
  go_enter Try.func29, Try.ntmps29
  go_wp2_with fail
  refine ((HS _).out).mono ?_
  rintro e w1 ⟨rfl, hb⟩
  obtain ⟨hc1, hf1⟩ := bcell hb
  have hz1 : w.heap.size + 1 < w1.heap.size := (by have := hb.size; simp at this; omega)
  have hz0 : w.heap.size < w1.heap.size := (by omega)
  have p0 : w1.cell? ⟨w.heap.size, 0, none⟩ = some (.int .i64 0) := (by rw [hc1 _ _ (by simp; omega)]; simp [go_sem])
  have p1 : w1.cell? ⟨w.heap.size, 1, none⟩ = some (.int .u64 0) := (by rw [hc1 _ _ (by simp; omega)]; simp [go_sem])
  go_wp2_with fail
  exact bodyPost_ret (by simp [results, Try.results29, go_sem, p0, p1, hz1, hz0]) rfl ⟨rfl, by repeat (with_reducible first | apply pw_below_drewN | apply below_drew1 | apply below_alloc | exact Below.refl _ _ | (refine below_set ?_ (by first | omega | (simp; omega))) | (refine below_next ?_ hb))⟩
set_option maxHeartbeats 4000000 in
set_option maxRecDepth 100000 in
theorem Join_w2 (a1 a2 r1 r2 r3 : Int) (w : World) (b x y : Bool) (h0 : 9223372036854775808 ≤ a1) (hd : (a1 / 9223372036854775808 == 0) = false) (hx : (a1 == 9223372036854775808) = x) (hy : (a2 == 0) = y) (hr : (bif b && x && y then (-9223372036854775808, (0 : Int), (0 : Int)) else ((0 : Int), 0, 10)) = (r1, r2, r3)) :
    Calls Try.prog 29 #[.bool b, .int .u64 a1, .int .u64 a2] w fun e w' => e = .returned (.tuple #[.agg #[.int .i64 r1, .int .u64 r2], .int .i64 r3]) ∧ Below w.heap.size w w' := by
  cases b <;> cases x <;> cases y <;> (obtain ⟨rfl, rfl, rfl⟩ := by simpa using hr) <;> clear hr <;> go_enter Try.func29, Try.ntmps29 <;> go_wp2 <;> exact bodyPost_ret (by simp [results, Try.results29, go_sem]) rfl ⟨rfl, by repeat (with_reducible first | apply pw_below_drewN | apply below_drew1 | apply below_alloc | exact Below.refl _ _ | (refine below_set ?_ (by first | omega | (simp; omega))) | (refine below_next ?_ hb))⟩
def Join.f (a0 : Bool) (a1 a2 : Int) : Option (Int × Int × Int) := if (0 ≤ a1 ∧ a1 ≤ 18446744073709551615) ∧ (0 ≤ a2 ∧ a2 ≤ 18446744073709551615) then some (wans (if a0 = true then -(a1 * 18446744073709551616 + a2) else a1 * 18446744073709551616 + a2)) else none
theorem Join.calls (a0 : Bool) (a1 a2 r1 r2 r3 : Int) (w : World) (h : Join.f a0 a1 a2 = some (r1, r2, r3)) :
    Calls Try.prog 29 #[.bool a0, .int .u64 a1, .int .u64 a2] w fun e w' => e = .returned (.tuple #[.agg #[.int .i64 r1, .int .u64 r2], .int .i64 r3]) ∧ Below w.heap.size w w' := by
  unfold Join.f at h
  split at h
  · rename_i hb
    obtain ⟨⟨p1, p2⟩, p3, p4⟩ := hb
    have h := Option.some.inj h
    by_cases h0 : a1 ≤ 9223372036854775807
    · have b : WB a1 a2 := by unfold WB; omega
      have hd : (a1 / 9223372036854775808 == 0) = true := beq_iff_eq.mpr (by omega)
      cases a0 with
      | false =>
        rw [if_neg (by simp)] at h
        have e := wans_wv b
        unfold wv at e
        rw [e] at h
        obtain ⟨rfl, rfl, rfl⟩ := by simpa only [Prod.mk.injEq] using h
        exact Join_w0 _ _ w p1 h0 hd
      | true =>
        rw [if_pos rfl] at h
        refine Join_w1 _ _ _ _ _ w p1 h0 hd ?_
        rw [Neg_f b]
        unfold wv
        rw [h]
    · have hd : (a1 / 9223372036854775808 == 0) = false := beq_eq_false_iff_ne.mpr (by omega)
      refine Join_w2 _ _ _ _ _ w _ _ _ (by omega) hd rfl rfl (Eq.trans ?_ h)
      unfold wans
      cases a0 <;> simp only [Bool.cond_eq_ite, Bool.and_eq_true, beq_iff_eq, Bool.false_eq_true, false_and, if_false, if_true, true_and]
      · rw [if_neg (by omega)]
      · by_cases e1 : a1 = 9223372036854775808 ∧ a2 = 0
        · rw [if_pos e1, if_pos (by omega), e1.1, e1.2]
          rfl
        · rw [if_neg e1, if_neg (by omega)]
  · cases h
theorem Join_f (neg : Bool) {hi lo : Int} (h1 : 0 ≤ hi ∧ hi ≤ 18446744073709551615) (h2 : 0 ≤ lo ∧ lo ≤ 18446744073709551615) :
    Join.f neg hi lo = some (wans (if neg = true then -(hi * 18446744073709551616 + lo) else hi * 18446744073709551616 + lo)) := if_pos ⟨h1, h2⟩
end Go.Proofs.Ytieeaicdpdidpaa.WF
