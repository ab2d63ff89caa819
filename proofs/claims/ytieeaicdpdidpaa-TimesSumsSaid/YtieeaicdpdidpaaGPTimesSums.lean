/- The statement TimesSums for every input: the plain facts on the functions' results, and the row. No condition. -/
import Derived.Test.YtieeaicdpdidpaaGF0
import Derived.Test.YtieeaicdpdidpaaGE1
import Derived.Test.YtieeaicdpdidpaaRows
import Derived.Test.YtieeaicdpdidpaaChecked
namespace Go.Proofs.Ytieeaicdpdidpaa.E
open Go
def W26 (a : (Int × Int)) : Prop := (-9223372036854775808 ≤ a.1 ∧ a.1 ≤ 9223372036854775807) ∧ (0 ≤ a.2 ∧ a.2 ≤ 18446744073709551615)
def PTimesSums : Prop := ∀ (a0 : (Int × Int)) (a1 : (Int × Int)) (a2 : (Int × Int)), W26 a0 → W26 a1 → W26 a2 → N7 (a0, a1, a2, ()) = some (true, ())
end Go.Proofs.Ytieeaicdpdidpaa.E
namespace Go.Proofs.Ytieeaicdpdidpaa.E
open Go
set_option linter.unusedVariables false
theorem wAdd {a0 a1 b0 b1 : Int} (ha : WB a0 a1) (hb : WB b0 b1) : N21 ((a0, a1), (b0, b1), ()) = some (wans (wv a0 a1 + wv b0 b1)) := by
  obtain ⟨⟨p1, p2⟩, p3, p4⟩ := ha
  obtain ⟨⟨q1, q2⟩, q3, q4⟩ := hb
  unfold N21 M21
  simp only []
  rw [add64_f ⟨p3, p4⟩ ⟨q3, q4⟩ (by omega)]
  simp only [Option.bind_some, wu, ws]
  rw [add64_f (by omega) (by omega) (by omega)]
  simp only [Option.bind_some]
  unfold wans wv
  simp only [bif_not, bif_iff]
  (repeat' split) <;> first | rfl | (exfalso; omega) | (congr 3 <;> omega) | (congr 2 <;> omega)
theorem wSub {a0 a1 b0 b1 : Int} (ha : WB a0 a1) (hb : WB b0 b1) : N24 ((a0, a1), (b0, b1), ()) = some (wans (wv a0 a1 - wv b0 b1)) := by
  obtain ⟨⟨p1, p2⟩, p3, p4⟩ := ha
  obtain ⟨⟨q1, q2⟩, q3, q4⟩ := hb
  unfold N24 M24
  simp only []
  rw [sub64_f ⟨p3, p4⟩ ⟨q3, q4⟩ (by omega)]
  simp only [Option.bind_some, wu, ws]
  rw [sub64_f (by omega) (by omega) (by omega)]
  simp only [Option.bind_some]
  unfold wans wv
  simp only [bif_not, bif_iff]
  (repeat' split) <;> first | rfl | (exfalso; omega) | (congr 3 <;> omega) | (congr 2 <;> omega)
theorem wNeg {a0 a1 : Int} (ha : WB a0 a1) : N43 ((a0, a1), ()) = some (wans (-wv a0 a1)) := by
  unfold N43 M43
  simp only []
  rw [wSub WB_zero ha, show wv 0 0 - wv a0 a1 = -wv a0 a1 from by unfold wv; omega]
  rfl
theorem wOf {a : Int} (h : -9223372036854775808 ≤ a ∧ a ≤ 9223372036854775807) : N20 (a, ()) = some ((a / 18446744073709551616, a % 18446744073709551616), ()) := by
  unfold N20 M20
  simp only [wu]
  rw [fdiv_pos (by omega), show a / 9223372036854775808 = a / 18446744073709551616 from by omega]
theorem wAbs {h l : Int} (b : WB h l) : N25 ((h, l), ()) = some (wabs (wv h l) / 18446744073709551616, wabs (wv h l) % 18446744073709551616, ()) := by
  obtain ⟨⟨p1, p2⟩, p3, p4⟩ := b
  unfold N25 M25 wabs
  simp only [wu, bif_p]
  by_cases h0 : h ≥ 0
  · rw [if_pos h0, if_neg (by unfold wv; omega)]
    unfold wv
    congr 2 <;> first | omega | (congr 1; omega)
  · rw [if_neg h0, if_pos (by unfold wv; omega), sub64_f (by omega) (by omega) (by omega)]
    simp only [Option.bind_some]
    rw [sub64_f (by omega) (by omega) (by omega)]
    simp only [Option.bind_some]
    unfold wv
    congr 2 <;> first | omega | (congr 1; omega)
theorem wJoin (neg : Bool) {hi lo : Int} (h1 : 0 ≤ hi ∧ hi ≤ 18446744073709551615) (h2 : 0 ≤ lo ∧ lo ≤ 18446744073709551615) :
    N29 (neg, hi, lo, ()) = some (wans (if neg = true then -(hi * 18446744073709551616 + lo) else hi * 18446744073709551616 + lo)) := by
  unfold N29 M29
  simp only []
  rw [fdiv_pos (by omega)]
  by_cases h0 : hi / 9223372036854775808 = 0
  · rw [bif_t (by simpa using h0), wsi (by omega)]
    have b : WB hi lo := by unfold WB; omega
    cases neg with
    | true =>
      rw [bif_t rfl, if_pos rfl, wNeg b]
      rfl
    | false =>
      rw [bif_f rfl, if_neg (by simp)]
      have := wans_wv b
      unfold wv at this
      rw [this]
  · rw [bif_f (by simpa using h0)]
    cases neg with
    | true =>
      rw [bif_t rfl, if_pos rfl]
      unfold wans
      by_cases e1 : hi = 9223372036854775808
      · rw [bif_t (by simpa using e1)]
        by_cases e2 : lo = 0
        · rw [bif_t (by simpa using e2), if_pos (by omega)]
          subst e1 e2
          rfl
        · rw [bif_f (by simpa using e2), if_neg (by omega)]
      · rw [bif_f (by simpa using e1), if_neg (by omega)]
    | false =>
      rw [bif_f rfl, if_neg (by simp)]
      unfold wans
      rw [if_neg (by omega)]
end Go.Proofs.Ytieeaicdpdidpaa.E
namespace Go.Proofs.Ytieeaicdpdidpaa.E
open Go
set_option linter.unusedVariables false
theorem and_low {z : Int} (h : 0 ≤ z ∧ z ≤ 18446744073709551615) : IntKind.wrap .u64 ↑(BitVec.toNat (BitVec.ofInt 64 z &&& BitVec.ofInt 64 4294967295)) = z % 4294967296 := and_low32 z h.1 (by omega)
theorem ofInt_toNat {x : Int} (h : 0 ≤ x ∧ x ≤ 18446744073709551615) : ((BitVec.ofInt 64 x).toNat : Int) = x := by
  rw [BitVec.toNat_ofInt]
  have : x % ((2 ^ 64 : Nat) : Int) = x := Int.emod_eq_of_lt h.1 (by omega)
  rw [this]
  omega
theorem or_zero_r {x : Int} (h : 0 ≤ x ∧ x ≤ 18446744073709551615) : IntKind.wrap .u64 ↑(BitVec.toNat (BitVec.ofInt 64 x ||| BitVec.ofInt 64 0)) = x := by
  rw [show BitVec.ofInt 64 0 = 0#64 from rfl, BitVec.or_zero, ofInt_toNat h, wui h]
theorem or_zero_l {x : Int} (h : 0 ≤ x ∧ x ≤ 18446744073709551615) : IntKind.wrap .u64 ↑(BitVec.toNat (BitVec.ofInt 64 0 ||| BitVec.ofInt 64 x)) = x := by
  rw [show BitVec.ofInt 64 0 = 0#64 from rfl, BitVec.zero_or, ofInt_toNat h, wui h]
theorem wMul64 {x y : Int} (hx : 0 ≤ x ∧ x ≤ 18446744073709551615) (hy : 0 ≤ y ∧ y ≤ 18446744073709551615) :
    N26 (x, y, ()) = some (x * y / 18446744073709551616, x * y % 18446744073709551616, ()) := by
  have h := mul64_arith x y hx.1 (by omega) hy.1 (by omega)
  unfold N26 M26
  simp only [fdiv_pos (show (0 : Int) ≤ 4294967296 by omega)]
  rw [and_low hx, and_low hy]
  simp only [wu]
  rw [← wu (↑(BitVec.toNat _)), and_low (by omega), h]
theorem mul_words {x y : Int} (hx : 0 ≤ x ∧ x ≤ 18446744073709551615) (hy : 0 ≤ y ∧ y ≤ 18446744073709551615) : 0 ≤ x * y ∧ x * y ≤ 340282366920938463426481119284349108225 := by
  refine ⟨Int.mul_nonneg hx.1 hy.1, ?_⟩
  have := Int.mul_le_mul hx.2 hy.2 hy.1 (by omega : (0 : Int) ≤ 18446744073709551615)
  simpa using this
theorem wabs_mul (a b : Int) : wabs (a * b) = wabs a * wabs b := by
  unfold wabs
  by_cases ha : a < 0 <;> by_cases hb : b < 0
  · have := Int.mul_pos_of_neg_of_neg ha hb
    rw [if_neg (by omega), if_pos ha, if_pos hb, Int.neg_mul_neg]
  · have : a * b ≤ 0 := Int.mul_nonpos_of_nonpos_of_nonneg (by omega) (by omega)
    rw [if_pos ha, if_neg hb, Int.neg_mul]
    split <;> omega
  · have : a * b ≤ 0 := Int.mul_nonpos_of_nonneg_of_nonpos (by omega) (by omega)
    rw [if_neg ha, if_pos hb, Int.mul_neg]
    split <;> omega
  · have := Int.mul_nonneg (show 0 ≤ a by omega) (show 0 ≤ b by omega)
    rw [if_neg (by omega), if_neg ha, if_neg hb]
/-- A number out of its sign and its magnitude. -/
theorem sign_mul {a b : Int} {p q : Bool} (hp : p = true ↔ a < 0) (hq : q = true ↔ b < 0) : (if (!(p == q)) = true then -(wabs a * wabs b) else wabs a * wabs b) = a * b := by
  unfold wabs
  cases p <;> cases q <;> simp at hp hq
  · rw [if_neg (show ¬ a < 0 by omega), if_neg (show ¬ b < 0 by omega)]; simp
  · rw [if_neg (show ¬ a < 0 by omega), if_pos (show b < 0 by omega)]; simp <;> grind
  · rw [if_pos (show a < 0 by omega), if_neg (show ¬ b < 0 by omega)]; simp <;> grind
  · rw [if_pos (show a < 0 by omega), if_pos (show b < 0 by omega)]; simp <;> grind
/-- Where the magnitude is past every number, there is none. -/
theorem wans_past {v : Int} (h : 340282366920938463463374607431768211456 ≤ wabs v) : wans v = ((0, 0), 10, ()) := by
  refine wans_out ?_
  unfold wabs at h
  split at h <;> omega
/-- What is left of the product once its upper parts are settled. -/
theorem mul_rest {A1 A0 B1 B0 c : Int} (hA1 : 0 ≤ A1 ∧ A1 ≤ 9223372036854775808) (hA0 : 0 ≤ A0 ∧ A0 ≤ 18446744073709551615) (hB1 : 0 ≤ B1 ∧ B1 ≤ 9223372036854775808) (hB0 : 0 ≤ B0 ∧ B0 ≤ 18446744073709551615) (h0 : A1 = 0 ∨ B1 = 0)
    (hc : c = A1 * B0 + B1 * A0) : (A1 * 18446744073709551616 + A0) * (B1 * 18446744073709551616 + B0) = c * 18446744073709551616 + A0 * B0 := by
  subst hc
  rcases h0 with rfl | rfl
  · grind
  · grind
theorem wMul {a0 a1 b0 b1 : Int} (ha : WB a0 a1) (hb : WB b0 b1) : N12 ((a0, a1), (b0, b1), ()) = some (wans (wv a0 a1 * wv b0 b1)) := by
  have hs := sign_mul (a := wv a0 a1) (b := wv b0 b1) (p := decide (a0 < 0)) (q := decide (b0 < 0)) (by unfold WB at ha; unfold wv; simp; omega) (by unfold WB at hb; unfold wv; simp; omega)
  have hm := wabs_mul (wv a0 a1) (wv b0 b1)
  have hA := wabs_in ha
  have hB := wabs_in hb
  have eA := Int.emod_add_mul_ediv (wabs (wv a0 a1)) 18446744073709551616
  have eB := Int.emod_add_mul_ediv (wabs (wv b0 b1)) 18446744073709551616
  unfold N12 M12
  simp only []
  rw [wAbs ha]
  simp only [Option.bind_some]
  rw [wAbs hb]
  simp only [Option.bind_some]
  have hA1 : 0 ≤ wabs (wv a0 a1) / 18446744073709551616 ∧ wabs (wv a0 a1) / 18446744073709551616 ≤ 9223372036854775808 := by omega
  have hA0 : 0 ≤ wabs (wv a0 a1) % 18446744073709551616 ∧ wabs (wv a0 a1) % 18446744073709551616 ≤ 18446744073709551615 := by omega
  have hB1 : 0 ≤ wabs (wv b0 b1) / 18446744073709551616 ∧ wabs (wv b0 b1) / 18446744073709551616 ≤ 9223372036854775808 := by omega
  have hB0 : 0 ≤ wabs (wv b0 b1) % 18446744073709551616 ∧ wabs (wv b0 b1) % 18446744073709551616 ≤ 18446744073709551615 := by omega
  generalize wabs (wv a0 a1) / 18446744073709551616 = A1 at *
  generalize wabs (wv a0 a1) % 18446744073709551616 = A0 at *
  generalize wabs (wv b0 b1) / 18446744073709551616 = B1 at *
  generalize wabs (wv b0 b1) % 18446744073709551616 = B0 at *
  rw [← eA, ← eB] at hm hs
  generalize wv a0 a1 * wv b0 b1 = v at *
  -- the rest, behind the test
  have rest : (A1 = 0 ∨ B1 = 0) → ((N26 (A0, B0, ())).bind fun ⟨y3_0, ⟨y3_1, ()⟩⟩ => ((N27 (A1 != 0, B0, A0, ())).bind fun ⟨y4, ()⟩ => (let v0 : Int := ↑(BitVec.toNat (BitVec.ofInt 64 A1 ||| BitVec.ofInt 64 B1)); let v1 : Int := IntKind.wrap IntKind.u64 v0; (N26 (v1, y4, ())).bind fun ⟨y5_0, ⟨y5_1, ()⟩⟩ => (Option.bind (α := Int × Int × Unit) ((cAdd64 (τ := τ)).f (y3_0, y5_1, 0, ())) fun ⟨y6_0, ⟨y6_1, ()⟩⟩ => (bif y5_0 != 0 then (some ((0, 0), (10, ()))) else (bif y6_1 != 0 then (some ((0, 0), (10, ()))) else ((N29 (!decide (a0 < 0) == decide (b0 < 0), y6_0, y3_1, ())).bind fun ⟨⟨y9_0, y9_1⟩, ⟨y9_2, ()⟩⟩ => (some ((y9_0, y9_1), (y9_2, ())))))))))) = some (wans v) := by
    intro h0
    have hp := mul_words hA0 hB0
    rw [wMul64 hA0 hB0]
    simp only [Option.bind_some]
    obtain ⟨p, c, hpk, hw, hc, hpw⟩ : ∃ p c, N27 (A1 != 0, B0, A0, ()) = some (p, ()) ∧ IntKind.wrap .u64 ↑(BitVec.toNat (BitVec.ofInt 64 A1 ||| BitVec.ofInt 64 B1)) = c ∧ c * p = A1 * B0 + B1 * A0 ∧ (0 ≤ c ∧ c ≤ 18446744073709551615) ∧ (0 ≤ p ∧ p ≤ 18446744073709551615) := by
      rcases h0 with rfl | rfl
      · exact ⟨A0, B1, rfl, or_zero_l (by omega), by grind, by omega, by omega⟩
      · by_cases h : A1 = 0
        · subst h
          exact ⟨A0, 0, rfl, or_zero_l (by omega), by grind, by omega, by omega⟩
        · refine ⟨B0, A1, ?_, or_zero_r (by omega), by grind, by omega, by omega⟩
          have : (A1 != 0) = true := by simpa using h
          rw [this]
          rfl
    rw [hpk]
    simp only [Option.bind_some, hw]
    rw [wMul64 hpw.1 hpw.2]
    simp only [Option.bind_some]
    have hr := mul_rest hA1 hA0 hB1 hB0 h0 rfl
    rw [show A1 * 18446744073709551616 + A0 = A0 + 18446744073709551616 * A1 from by omega, show B1 * 18446744073709551616 + B0 = B0 + 18446744073709551616 * B1 from by omega] at hr
    rw [← hc] at hr
    rw [hr] at hm hs
    have hcp := mul_words hpw.1 hpw.2
    generalize c * p = C at *
    generalize A0 * B0 = D at *
    rw [add64_f (by omega) (by omega) (by omega)]
    simp only [Option.bind_some, bif_ne]
    by_cases h1 : C / 18446744073709551616 = 0
    · rw [if_pos h1]
      by_cases h2 : (D / 18446744073709551616 + C % 18446744073709551616 + 0) / 18446744073709551616 = 0
      · rw [if_pos h2, wJoin _ (by omega) (by omega)]
        rw [show (D / 18446744073709551616 + C % 18446744073709551616 + 0) % 18446744073709551616 * 18446744073709551616 + D % 18446744073709551616 = C * 18446744073709551616 + D from by omega, hs]
        rfl
      · rw [if_neg h2, wans_past (by omega)]
    · rw [if_neg h1, wans_past (by omega)]
  by_cases h1 : A1 = 0
  · rw [bif_ne, if_pos h1]
    exact rest (.inl h1)
  · rw [bif_ne, if_neg h1]
    by_cases h2 : B1 = 0
    · rw [bif_ne, if_pos h2]
      exact rest (.inr h2)
    · rw [bif_ne, if_neg h2]
      have h3 : 340282366920938463463374607431768211456 ≤ (A0 + 18446744073709551616 * A1) * (B0 + 18446744073709551616 * B1) := by
        have := Int.mul_le_mul (show 18446744073709551616 ≤ A0 + 18446744073709551616 * A1 by omega) (show 18446744073709551616 ≤ B0 + 18446744073709551616 * B1 by omega) (by omega) (by omega)
        omega
      rw [wans_past (by omega)]
end Go.Proofs.Ytieeaicdpdidpaa.E
namespace Go.Proofs.Ytieeaicdpdidpaa.E
open Go
theorem awake_yes : N11 () = some (true, ()) := by kernel_rfl
end Go.Proofs.Ytieeaicdpdidpaa.E
namespace Go.Proofs.Ytieeaicdpdidpaa.E
open Go
set_option linter.unusedVariables false
set_option maxRecDepth 100000
theorem wans_cases (v : Int) : (wans v = ((v / 18446744073709551616, v % 18446744073709551616), 0, ()) ∧ WB (v / 18446744073709551616) (v % 18446744073709551616)) ∨ wans v = ((0, 0), 10, ()) := by
  by_cases h : inR v
  · exact .inl ⟨wans_in h, WB_in h⟩
  · exact .inr (wans_out h)
theorem pureTimesSums : PTimesSums := by
  intro ⟨a0, a1⟩ ⟨b0, b1⟩ ⟨c0, c1⟩ ha hb hc
  have ha : WB a0 a1 := ha
  have hb : WB b0 b1 := hb
  have hc : WB c0 c1 := hc
  unfold N7 M7
  simp only []
  rw [awake_yes]
  simp only [Option.bind_some, Bool.not_true, cond_false]
  rw [wMul ha hb]
  simp only [Option.bind_some]
  rw [wMul hb ha]
  simp only [Option.bind_some]
  rw [wMul ha WB_zero, show wv a0 a1 * wv 0 0 = wv 0 0 from by rw [show wv 0 0 = 0 from rfl, Int.mul_zero], wans_wv WB_zero]
  simp only [Option.bind_some]
  rw [wOf (by omega), show (1 : Int) / 18446744073709551616 = 0 from rfl, show (1 : Int) % 18446744073709551616 = 1 from rfl]
  simp only [Option.bind_some]
  rw [wMul ha (show WB 0 1 from by unfold WB; omega), show wv a0 a1 * wv 0 1 = wv a0 a1 from by rw [show wv 0 1 = 1 from rfl, Int.mul_one], wans_wv ha]
  simp only [Option.bind_some]
  rw [wMul ha hc]
  simp only [Option.bind_some]
  rw [wAdd hb hc]
  simp only [Option.bind_some]
  rw [Int.mul_comm (wv b0 b1) (wv a0 a1)]
  simp only [beq_self_eq_true, Bool.and_true, Bool.not_true, cond_false, bne_self_eq_false]
  rcases wans_cases (wv a0 a1 * wv b0 b1) with ⟨e1, w1⟩ | e1
  · rw [e1]
    simp only [bne_self_eq_false, cond_false]
    rcases wans_cases (wv a0 a1 * wv c0 c1) with ⟨e2, w2⟩ | e2
    · rw [e2]
      simp only [bne_self_eq_false, cond_false]
      rcases wans_cases (wv b0 b1 + wv c0 c1) with ⟨e3, w3⟩ | e3
      · rw [e3]
        simp only [bne_self_eq_false, cond_false]
        rw [wMul ha w3]
        simp only [Option.bind_some]
        rw [wAdd w1 w2, wv_of, wv_of, wv_of, Int.mul_add]
        simp
      · rw [e3]
        rfl
    · rw [e2]
      rfl
  · rw [e1]
    rfl
end Go.Proofs.Ytieeaicdpdidpaa.E
namespace Go.Proofs.Ytieeaicdpdidpaa.E
open Go Go.ChangeShapes Go.WideShapes Go.ChangeAt Go.RowKit Go.Proofs.Ytieeaicdpdidpaa
set_option linter.unusedVariables false
set_option maxRecDepth 100000
theorem own : ownKnob Try.prog.godebug = none := by kernel_rfl
theorem laidOut : laidOutB Try.prog = true := by kernel_rfl
theorem came26 : Came κ Try.prog 26 ((.pair (.int .i64) (.int .u64)) : K τ (Int × Int)) W26 := Came.struct Try.underlying26 (by kernel_rfl) (CameFs.cons (o1 := 1) rfl (by kernel_rfl) rfl (Came.i64 Try.underlying2) (CameFs.one rfl (by kernel_rfl) (Came.u64 Try.underlying24)))
theorem lifted (os : Os) (started : os.Started) (H : Type) (enc : TypeId × Value → H) :
    ReturnsInHanded {} Try.checked os 7 .any (Rows.timesSumsSpec.pre6 enc Try.prog Try.f7 Rows.timesSumsRow.domain false) (Rows.timesSumsSpec.post enc Try.prog Try.f7 false true false false) := by
  refine returnsInHanded_of_change_sized (C := Try.checked) own started (by kernel_rfl) Try.func7
    (ChangeSpec.witness6 (enc := enc) (C := Try.checked) false ⟨#[], #[(.agg #[(.int .i64 0), (.int .u64 0)]), (.agg #[(.int .i64 0), (.int .u64 0)]), (.agg #[(.int .i64 0), (.int .u64 0)])], []⟩ 8 (by kernel_rfl) (by kernel_rfl) (by kernel_rfl) (by kernel_rfl)) ?_
  intro W base args ds gs before hval0 hW hcnd hsz0 _
  have hsz : (DataW.weightsEach Try.prog (Try.f7.params.toList ++ Rows.timesSumsSpec.plain.varTypes Try.prog) (ds ++ gs)).all (· ≤ reachBytes) = true := hsz0
  have hval : ∀ (j : Nat) t v, Try.f7.params[j]? = some t → args[j]? = some v → Value.okWide Try.prog W .any base t v := hval0
  have hW' := hW
  obtain ⟨p, q, hA0, hV, rfl, hfz, hnd⟩ := hW
  have hA : DataW.TrodAll enc Try.prog W 0 (fun _ => true) true Try.f7.params.toList args.toList ds p := hA0
  rw [Try.params7] at hA hval hsz
  obtain ⟨v0, vs0, d0, ds0, p0, q0, hargs, rfl, rfl, h0, r0⟩ := trodAll_cons hA
  obtain ⟨v1, vs1, d1, ds1, p1, q1, rfl, rfl, rfl, h1, r1⟩ := trodAll_cons r0
  obtain ⟨v2, vs2, d2, ds2, p2, q2, rfl, rfl, rfl, h2, r2⟩ := trodAll_cons r1
  obtain ⟨rfl, rfl, rfl⟩ := trodAll_nil r2
  obtain rfl : args = #[v0, v1, v2] := by cases args; simp_all
  obtain ⟨rfl, rfl⟩ := trodVars_none hV
  have hwt : ∀ (j : Nat) t d, [26, 26, 26][j]? = some t → [d0, d1, d2][j]? = some d → ∀ n ∈ DataW.weights Try.prog t d, n ≤ reachBytes := fun j t d h1 h2 n hn => by
    have := List.all_eq_true.1 hsz n (weights_each (j := j) (by simpa using (List.getElem?_append_left (l₂ := Rows.timesSumsSpec.plain.varTypes Try.prog) (List.getElem?_eq_some_iff.1 h1).1).trans h1) (by simpa using h2) n hn)
    simpa using this
  have lt0 : ∀ x ∈ p0, x.block < W.heap.size := by obtain ⟨m, hm⟩ := h0; exact DataW.trod_lt m _ _ _ hm
  obtain ⟨a0, e0, y0⟩ := arg_agg Try.underlying26 rfl came26 (hval 0 26 v0 rfl rfl) h0 (hwt 0 26 d0 rfl rfl)
  have lt1 : ∀ x ∈ p1, x.block < W.heap.size := by obtain ⟨m, hm⟩ := h1; exact DataW.trod_lt m _ _ _ hm
  obtain ⟨a1, e1, y1⟩ := arg_agg Try.underlying26 rfl came26 (hval 1 26 v1 rfl rfl) h1 (hwt 1 26 d1 rfl rfl)
  have lt2 : ∀ x ∈ p2, x.block < W.heap.size := by obtain ⟨m, hm⟩ := h2; exact DataW.trod_lt m _ _ _ hm
  obtain ⟨a2, e2, y2⟩ := arg_agg Try.underlying26 rfl came26 (hval 2 26 v2 rfl rfl) h2 (hwt 2 26 d2 rfl rfl)
  have hp : N7 (a0, a1, a2, ()) = some (true, ()) := pureTimesSums a0 a1 a2 y0 y1 y2
  refine (law_calls (i := i7) (n := N7) (F := Try.f7) (code := bodyOf Try.f7) s7 (by kernel_rfl) Try.func7 (by kernel_rfl) (by kernel_rfl) hp (argsK_cons e0 (argsK_cons e1 (argsK_cons e2 argsK_nil)))).mono fun e W' ⟨he, bel⟩ => ?_
  subst he
  exact ⟨_, rfl, _, _, _, [], _, [], hW', trodAll_mk1 (shut_bool Try.underlying4 _), (trodAll_cons_mk (Below.trod laidOut (by kernel_rfl) (of_decide_eq_true (by kernel_rfl)) h0 bel lt0) (trodAll_cons_mk (Below.trod laidOut (by kernel_rfl) (of_decide_eq_true (by kernel_rfl)) h1 bel lt1) (trodAll_cons_mk (Below.trod laidOut (by kernel_rfl) (of_decide_eq_true (by kernel_rfl)) h2 bel lt2) trodAll_mk0))), rfl, bel.frame _, fun h => by cases h⟩
theorem over : Rows.timesSumsRow.holds Try.pinned (OpenSpec.ofChange Rows.timesSumsSpec) :=
  OpenClaim.holds_of_wide 7 Try.f7 rfl rfl rfl rfl rfl rfl rfl ⟨rfl, rfl, rfl, rfl, rfl⟩ rfl rfl rfl rfl rfl (by kernel_rfl) Try.func7 (by kernel_rfl)
    (of_decide_eq_true (by kernel_rfl)) (by unfold Func.isWrapper; first | (rw [if_pos (by decide +kernel)]; kernel_rfl) | (rw [if_neg (by decide +kernel)]; exact ⟨rfl, rfl⟩))
    (fun os started H enc _ => lifted os started H enc)
theorem proved : Rows.TimesSumsSaid := over
end Go.Proofs.Ytieeaicdpdidpaa.E
namespace Go.Proofs.Ytieeaicdpdidpaa
/-- The row, under a short name, for the claim. -/
theorem timesSums_holds : Rows.TimesSumsSaid := Ytieeaicdpdidpaa.E.proved
#print axioms timesSums_holds
end Go.Proofs.Ytieeaicdpdidpaa
