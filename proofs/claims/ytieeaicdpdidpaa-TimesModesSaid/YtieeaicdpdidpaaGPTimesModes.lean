/- The statement TimesModes for every input: the plain facts on the functions' results, and the row. No condition. -/
import Derived.Test.YtieeaicdpdidpaaGF0
import Derived.Test.YtieeaicdpdidpaaGE1
import Derived.Lib.ItoaNum
import Derived.Laws.BitsAllLaws
import Derived.Test.YtieeaicdpdidpaaRows
import Derived.Test.YtieeaicdpdidpaaChecked
namespace Go.Proofs.Ytieeaicdpdidpaa.E
open Go
def W26 (a : (Int × Int)) : Prop := (-9223372036854775808 ≤ a.1 ∧ a.1 ≤ 9223372036854775807) ∧ (0 ≤ a.2 ∧ a.2 ≤ 18446744073709551615)
def PTimesModes : Prop := ∀ (a0 : (Int × Int)) (a1 : (Int × Int)), W26 a0 → W26 a1 → N9 (a0, a1, ()) = some (true, ())
end Go.Proofs.Ytieeaicdpdidpaa.E
namespace Go.Proofs.Ytieeaicdpdidpaa.E
open Go
set_option linter.unusedVariables false
theorem wAdd {a0 a1 b0 b1 : Int} (ha : WB a0 a1) (hb : WB b0 b1) : N21 ((a0, a1), (b0, b1), ()) = some (wans (wv a0 a1 + wv b0 b1)) := by
  obtain ⟨⟨p1, p2⟩, p3, p4⟩ := ha
  obtain ⟨⟨q1, q2⟩, q3, q4⟩ := hb
  unfold N21 M21
  simp only []
  rw [add64_f ⟨p3, p4⟩ ⟨q3, q4⟩ (by omega)]
  simp only [Option.bind_some, wu, ws]
  rw [add64_f (by omega) (by omega) (by omega)]
  simp only [Option.bind_some]
  unfold wans wv
  simp only [bif_not, bif_iff]
  (repeat' split) <;> first | rfl | (exfalso; omega) | (congr 3 <;> omega) | (congr 2 <;> omega)
theorem wSub {a0 a1 b0 b1 : Int} (ha : WB a0 a1) (hb : WB b0 b1) : N24 ((a0, a1), (b0, b1), ()) = some (wans (wv a0 a1 - wv b0 b1)) := by
  obtain ⟨⟨p1, p2⟩, p3, p4⟩ := ha
  obtain ⟨⟨q1, q2⟩, q3, q4⟩ := hb
  unfold N24 M24
  simp only []
  rw [sub64_f ⟨p3, p4⟩ ⟨q3, q4⟩ (by omega)]
  simp only [Option.bind_some, wu, ws]
  rw [sub64_f (by omega) (by omega) (by omega)]
  simp only [Option.bind_some]
  unfold wans wv
  simp only [bif_not, bif_iff]
  (repeat' split) <;> first | rfl | (exfalso; omega) | (congr 3 <;> omega) | (congr 2 <;> omega)
theorem wNeg {a0 a1 : Int} (ha : WB a0 a1) : N43 ((a0, a1), ()) = some (wans (-wv a0 a1)) := by
  unfold N43 M43
  simp only []
  rw [wSub WB_zero ha, show wv 0 0 - wv a0 a1 = -wv a0 a1 from by unfold wv; omega]
  rfl
theorem wOf {a : Int} (h : -9223372036854775808 ≤ a ∧ a ≤ 9223372036854775807) : N20 (a, ()) = some ((a / 18446744073709551616, a % 18446744073709551616), ()) := by
  unfold N20 M20
  simp only [wu]
  rw [fdiv_pos (by omega), show a / 9223372036854775808 = a / 18446744073709551616 from by omega]
theorem wAbs {h l : Int} (b : WB h l) : N25 ((h, l), ()) = some (wabs (wv h l) / 18446744073709551616, wabs (wv h l) % 18446744073709551616, ()) := by
  obtain ⟨⟨p1, p2⟩, p3, p4⟩ := b
  unfold N25 M25 wabs
  simp only [wu, bif_p]
  by_cases h0 : h ≥ 0
  · rw [if_pos h0, if_neg (by unfold wv; omega)]
    unfold wv
    congr 2 <;> first | omega | (congr 1; omega)
  · rw [if_neg h0, if_pos (by unfold wv; omega), sub64_f (by omega) (by omega) (by omega)]
    simp only [Option.bind_some]
    rw [sub64_f (by omega) (by omega) (by omega)]
    simp only [Option.bind_some]
    unfold wv
    congr 2 <;> first | omega | (congr 1; omega)
theorem wJoin (neg : Bool) {hi lo : Int} (h1 : 0 ≤ hi ∧ hi ≤ 18446744073709551615) (h2 : 0 ≤ lo ∧ lo ≤ 18446744073709551615) :
    N29 (neg, hi, lo, ()) = some (wans (if neg = true then -(hi * 18446744073709551616 + lo) else hi * 18446744073709551616 + lo)) := by
  unfold N29 M29
  simp only []
  rw [fdiv_pos (by omega)]
  by_cases h0 : hi / 9223372036854775808 = 0
  · rw [bif_t (by simpa using h0), wsi (by omega)]
    have b : WB hi lo := by unfold WB; omega
    cases neg with
    | true =>
      rw [bif_t rfl, if_pos rfl, wNeg b]
      rfl
    | false =>
      rw [bif_f rfl, if_neg (by simp)]
      have := wans_wv b
      unfold wv at this
      rw [this]
  · rw [bif_f (by simpa using h0)]
    cases neg with
    | true =>
      rw [bif_t rfl, if_pos rfl]
      unfold wans
      by_cases e1 : hi = 9223372036854775808
      · rw [bif_t (by simpa using e1)]
        by_cases e2 : lo = 0
        · rw [bif_t (by simpa using e2), if_pos (by omega)]
          subst e1 e2
          rfl
        · rw [bif_f (by simpa using e2), if_neg (by omega)]
      · rw [bif_f (by simpa using e1), if_neg (by omega)]
    | false =>
      rw [bif_f rfl, if_neg (by simp)]
      unfold wans
      rw [if_neg (by omega)]
end Go.Proofs.Ytieeaicdpdidpaa.E
namespace Go.Proofs.Ytieeaicdpdidpaa.E
open Go
set_option linter.unusedVariables false
theorem and_low {z : Int} (h : 0 ≤ z ∧ z ≤ 18446744073709551615) : IntKind.wrap .u64 ↑(BitVec.toNat (BitVec.ofInt 64 z &&& BitVec.ofInt 64 4294967295)) = z % 4294967296 := and_low32 z h.1 (by omega)
theorem ofInt_toNat {x : Int} (h : 0 ≤ x ∧ x ≤ 18446744073709551615) : ((BitVec.ofInt 64 x).toNat : Int) = x := by
  rw [BitVec.toNat_ofInt]
  have : x % ((2 ^ 64 : Nat) : Int) = x := Int.emod_eq_of_lt h.1 (by omega)
  rw [this]
  omega
theorem or_zero_r {x : Int} (h : 0 ≤ x ∧ x ≤ 18446744073709551615) : IntKind.wrap .u64 ↑(BitVec.toNat (BitVec.ofInt 64 x ||| BitVec.ofInt 64 0)) = x := by
  rw [show BitVec.ofInt 64 0 = 0#64 from rfl, BitVec.or_zero, ofInt_toNat h, wui h]
theorem or_zero_l {x : Int} (h : 0 ≤ x ∧ x ≤ 18446744073709551615) : IntKind.wrap .u64 ↑(BitVec.toNat (BitVec.ofInt 64 0 ||| BitVec.ofInt 64 x)) = x := by
  rw [show BitVec.ofInt 64 0 = 0#64 from rfl, BitVec.zero_or, ofInt_toNat h, wui h]
theorem wMul64 {x y : Int} (hx : 0 ≤ x ∧ x ≤ 18446744073709551615) (hy : 0 ≤ y ∧ y ≤ 18446744073709551615) :
    N26 (x, y, ()) = some (x * y / 18446744073709551616, x * y % 18446744073709551616, ()) := by
  have h := mul64_arith x y hx.1 (by omega) hy.1 (by omega)
  unfold N26 M26
  simp only [fdiv_pos (show (0 : Int) ≤ 4294967296 by omega)]
  rw [and_low hx, and_low hy]
  simp only [wu]
  rw [← wu (↑(BitVec.toNat _)), and_low (by omega), h]
theorem mul_words {x y : Int} (hx : 0 ≤ x ∧ x ≤ 18446744073709551615) (hy : 0 ≤ y ∧ y ≤ 18446744073709551615) : 0 ≤ x * y ∧ x * y ≤ 340282366920938463426481119284349108225 := by
  refine ⟨Int.mul_nonneg hx.1 hy.1, ?_⟩
  have := Int.mul_le_mul hx.2 hy.2 hy.1 (by omega : (0 : Int) ≤ 18446744073709551615)
  simpa using this
theorem wabs_mul (a b : Int) : wabs (a * b) = wabs a * wabs b := by
  unfold wabs
  by_cases ha : a < 0 <;> by_cases hb : b < 0
  · have := Int.mul_pos_of_neg_of_neg ha hb
    rw [if_neg (by omega), if_pos ha, if_pos hb, Int.neg_mul_neg]
  · have : a * b ≤ 0 := Int.mul_nonpos_of_nonpos_of_nonneg (by omega) (by omega)
    rw [if_pos ha, if_neg hb, Int.neg_mul]
    split <;> omega
  · have : a * b ≤ 0 := Int.mul_nonpos_of_nonneg_of_nonpos (by omega) (by omega)
    rw [if_neg ha, if_pos hb, Int.mul_neg]
    split <;> omega
  · have := Int.mul_nonneg (show 0 ≤ a by omega) (show 0 ≤ b by omega)
    rw [if_neg (by omega), if_neg ha, if_neg hb]
/-- A number out of its sign and its magnitude. -/
theorem sign_mul {a b : Int} {p q : Bool} (hp : p = true ↔ a < 0) (hq : q = true ↔ b < 0) : (if (!(p == q)) = true then -(wabs a * wabs b) else wabs a * wabs b) = a * b := by
  unfold wabs
  cases p <;> cases q <;> simp at hp hq
  · rw [if_neg (show ¬ a < 0 by omega), if_neg (show ¬ b < 0 by omega)]; simp
  · rw [if_neg (show ¬ a < 0 by omega), if_pos (show b < 0 by omega)]; simp <;> grind
  · rw [if_pos (show a < 0 by omega), if_neg (show ¬ b < 0 by omega)]; simp <;> grind
  · rw [if_pos (show a < 0 by omega), if_pos (show b < 0 by omega)]; simp <;> grind
/-- Where the magnitude is past every number, there is none. -/
theorem wans_past {v : Int} (h : 340282366920938463463374607431768211456 ≤ wabs v) : wans v = ((0, 0), 10, ()) := by
  refine wans_out ?_
  unfold wabs at h
  split at h <;> omega
/-- What is left of the product once its upper parts are settled. -/
theorem mul_rest {A1 A0 B1 B0 c : Int} (hA1 : 0 ≤ A1 ∧ A1 ≤ 9223372036854775808) (hA0 : 0 ≤ A0 ∧ A0 ≤ 18446744073709551615) (hB1 : 0 ≤ B1 ∧ B1 ≤ 9223372036854775808) (hB0 : 0 ≤ B0 ∧ B0 ≤ 18446744073709551615) (h0 : A1 = 0 ∨ B1 = 0)
    (hc : c = A1 * B0 + B1 * A0) : (A1 * 18446744073709551616 + A0) * (B1 * 18446744073709551616 + B0) = c * 18446744073709551616 + A0 * B0 := by
  subst hc
  rcases h0 with rfl | rfl
  · grind
  · grind
theorem wMul {a0 a1 b0 b1 : Int} (ha : WB a0 a1) (hb : WB b0 b1) : N12 ((a0, a1), (b0, b1), ()) = some (wans (wv a0 a1 * wv b0 b1)) := by
  have hs := sign_mul (a := wv a0 a1) (b := wv b0 b1) (p := decide (a0 < 0)) (q := decide (b0 < 0)) (by unfold WB at ha; unfold wv; simp; omega) (by unfold WB at hb; unfold wv; simp; omega)
  have hm := wabs_mul (wv a0 a1) (wv b0 b1)
  have hA := wabs_in ha
  have hB := wabs_in hb
  have eA := Int.emod_add_mul_ediv (wabs (wv a0 a1)) 18446744073709551616
  have eB := Int.emod_add_mul_ediv (wabs (wv b0 b1)) 18446744073709551616
  unfold N12 M12
  simp only []
  rw [wAbs ha]
  simp only [Option.bind_some]
  rw [wAbs hb]
  simp only [Option.bind_some]
  have hA1 : 0 ≤ wabs (wv a0 a1) / 18446744073709551616 ∧ wabs (wv a0 a1) / 18446744073709551616 ≤ 9223372036854775808 := by omega
  have hA0 : 0 ≤ wabs (wv a0 a1) % 18446744073709551616 ∧ wabs (wv a0 a1) % 18446744073709551616 ≤ 18446744073709551615 := by omega
  have hB1 : 0 ≤ wabs (wv b0 b1) / 18446744073709551616 ∧ wabs (wv b0 b1) / 18446744073709551616 ≤ 9223372036854775808 := by omega
  have hB0 : 0 ≤ wabs (wv b0 b1) % 18446744073709551616 ∧ wabs (wv b0 b1) % 18446744073709551616 ≤ 18446744073709551615 := by omega
  generalize wabs (wv a0 a1) / 18446744073709551616 = A1 at *
  generalize wabs (wv a0 a1) % 18446744073709551616 = A0 at *
  generalize wabs (wv b0 b1) / 18446744073709551616 = B1 at *
  generalize wabs (wv b0 b1) % 18446744073709551616 = B0 at *
  rw [← eA, ← eB] at hm hs
  generalize wv a0 a1 * wv b0 b1 = v at *
  -- the rest, behind the test
  have rest : (A1 = 0 ∨ B1 = 0) → ((N26 (A0, B0, ())).bind fun ⟨y3_0, ⟨y3_1, ()⟩⟩ => ((N27 (A1 != 0, B0, A0, ())).bind fun ⟨y4, ()⟩ => (let v0 : Int := ↑(BitVec.toNat (BitVec.ofInt 64 A1 ||| BitVec.ofInt 64 B1)); let v1 : Int := IntKind.wrap IntKind.u64 v0; (N26 (v1, y4, ())).bind fun ⟨y5_0, ⟨y5_1, ()⟩⟩ => (Option.bind (α := Int × Int × Unit) ((cAdd64 (τ := τ)).f (y3_0, y5_1, 0, ())) fun ⟨y6_0, ⟨y6_1, ()⟩⟩ => (bif y5_0 != 0 then (some ((0, 0), (10, ()))) else (bif y6_1 != 0 then (some ((0, 0), (10, ()))) else ((N29 (!decide (a0 < 0) == decide (b0 < 0), y6_0, y3_1, ())).bind fun ⟨⟨y9_0, y9_1⟩, ⟨y9_2, ()⟩⟩ => (some ((y9_0, y9_1), (y9_2, ())))))))))) = some (wans v) := by
    intro h0
    have hp := mul_words hA0 hB0
    rw [wMul64 hA0 hB0]
    simp only [Option.bind_some]
    obtain ⟨p, c, hpk, hw, hc, hpw⟩ : ∃ p c, N27 (A1 != 0, B0, A0, ()) = some (p, ()) ∧ IntKind.wrap .u64 ↑(BitVec.toNat (BitVec.ofInt 64 A1 ||| BitVec.ofInt 64 B1)) = c ∧ c * p = A1 * B0 + B1 * A0 ∧ (0 ≤ c ∧ c ≤ 18446744073709551615) ∧ (0 ≤ p ∧ p ≤ 18446744073709551615) := by
      rcases h0 with rfl | rfl
      · exact ⟨A0, B1, rfl, or_zero_l (by omega), by grind, by omega, by omega⟩
      · by_cases h : A1 = 0
        · subst h
          exact ⟨A0, 0, rfl, or_zero_l (by omega), by grind, by omega, by omega⟩
        · refine ⟨B0, A1, ?_, or_zero_r (by omega), by grind, by omega, by omega⟩
          have : (A1 != 0) = true := by simpa using h
          rw [this]
          rfl
    rw [hpk]
    simp only [Option.bind_some, hw]
    rw [wMul64 hpw.1 hpw.2]
    simp only [Option.bind_some]
    have hr := mul_rest hA1 hA0 hB1 hB0 h0 rfl
    rw [show A1 * 18446744073709551616 + A0 = A0 + 18446744073709551616 * A1 from by omega, show B1 * 18446744073709551616 + B0 = B0 + 18446744073709551616 * B1 from by omega] at hr
    rw [← hc] at hr
    rw [hr] at hm hs
    have hcp := mul_words hpw.1 hpw.2
    generalize c * p = C at *
    generalize A0 * B0 = D at *
    rw [add64_f (by omega) (by omega) (by omega)]
    simp only [Option.bind_some, bif_ne]
    by_cases h1 : C / 18446744073709551616 = 0
    · rw [if_pos h1]
      by_cases h2 : (D / 18446744073709551616 + C % 18446744073709551616 + 0) / 18446744073709551616 = 0
      · rw [if_pos h2, wJoin _ (by omega) (by omega)]
        rw [show (D / 18446744073709551616 + C % 18446744073709551616 + 0) % 18446744073709551616 * 18446744073709551616 + D % 18446744073709551616 = C * 18446744073709551616 + D from by omega, hs]
        rfl
      · rw [if_neg h2, wans_past (by omega)]
    · rw [if_neg h1, wans_past (by omega)]
  by_cases h1 : A1 = 0
  · rw [bif_ne, if_pos h1]
    exact rest (.inl h1)
  · rw [bif_ne, if_neg h1]
    by_cases h2 : B1 = 0
    · rw [bif_ne, if_pos h2]
      exact rest (.inr h2)
    · rw [bif_ne, if_neg h2]
      have h3 : 340282366920938463463374607431768211456 ≤ (A0 + 18446744073709551616 * A1) * (B0 + 18446744073709551616 * B1) := by
        have := Int.mul_le_mul (show 18446744073709551616 ≤ A0 + 18446744073709551616 * A1 by omega) (show 18446744073709551616 ≤ B0 + 18446744073709551616 * B1 by omega) (by omega) (by omega)
        omega
      rw [wans_past (by omega)]
end Go.Proofs.Ytieeaicdpdidpaa.E
namespace Go.Proofs.Ytieeaicdpdidpaa.E
open Go
set_option linter.unusedVariables false
set_option maxRecDepth 100000
/-- The quotient digit: what it is, by its two bounds. -/
structure Dig (D n u Q : Int) : Prop where
  lo : Q * D ≤ n * 4294967296 + u
  hi : n * 4294967296 + u < Q * D + D
  q0 : 0 ≤ Q
  q1 : Q ≤ 4294967295
theorem dig_of {D n u : Int} (hD : 0 < D) (hn : 0 ≤ n ∧ n < D) (hu : 0 ≤ u ∧ u ≤ 4294967295) : Dig D n u ((n * 4294967296 + u) / D) := by
  have h1 := Int.mul_ediv_add_emod (n * 4294967296 + u) D
  have h2 := Int.emod_nonneg (n * 4294967296 + u) (Int.ne_of_gt hD)
  have h3 := Int.emod_lt_of_pos (n * 4294967296 + u) hD
  have h4 : 0 ≤ (n * 4294967296 + u) / D := Int.ediv_nonneg (by omega) (by omega)
  have h5 : (n * 4294967296 + u) / D < 4294967296 := Int.ediv_lt_of_lt_mul hD (by omega)
  rw [Int.mul_comm] at h1
  exact ⟨by omega, by omega, h4, by omega⟩
theorem dig_above {D d1 d0 n u Q q r : Int} (hD : D = d1 * 4294967296 + d0) (h1 : 0 ≤ d1) (h0 : 0 ≤ d0) (hQ : Dig D n u Q) (e : n = q * d1 + r) : (q * d0 > 4294967296 * r + u ↔ Q < q) := by
  have hD0 : 0 ≤ D := by omega
  have e1 : q * D = q * d1 * 4294967296 + q * d0 := by rw [hD, Int.mul_add, Int.mul_assoc]
  have h2 := hQ.lo
  have h3 := hQ.hi
  constructor
  · intro h
    rcases Int.lt_or_le Q q with h4 | h4
    · exact h4
    · have := Int.mul_le_mul_of_nonneg_right h4 hD0
      omega
  · intro h
    have := Int.mul_le_mul_of_nonneg_right (show Q + 1 ≤ q by omega) hD0
    rw [Int.add_mul, Int.one_mul] at this
    omega
/-- Behind a step whose rest is past 2^32 the digit is found. -/
theorem dig_found {D d1 d0 n u Q q r : Int} (hD : D = d1 * 4294967296 + d0) (h1 : 0 ≤ d1) (h0 : 0 ≤ d0 ∧ d0 ≤ 4294967295) (hu : 0 ≤ u) (hQ : Dig D n u Q) (e : n = q * d1 + r) (hr : 4294967296 ≤ r) (hq : 0 ≤ q ∧ q ≤ 4294967295) (ha : Q ≤ q) : q = Q := by
  rcases Int.lt_or_le Q q with h4 | h4
  · have := (dig_above hD h1 h0.1 hQ e).2 h4
    have h5 : q * d0 ≤ 4294967295 * 4294967295 := Int.mul_le_mul hq.2 h0.2 h0.1 (by omega)
    omega
  · omega
/-- A guess past 2^32 leaves a small rest. -/
theorem dig_big {D d1 d0 n q r : Int} (hD : D = d1 * 4294967296 + d0) (h1 : 0 ≤ d1) (hn : n < D) (e : n = q * d1 + r) (hq : 4294967296 ≤ q) : r < d0 := by
  have := Int.mul_le_mul_of_nonneg_right hq h1
  omega
theorem dig_test {D d1 d0 n u Q q r : Int} (hD : D = d1 * 4294967296 + d0) (h1 : 2147483648 ≤ d1 ∧ d1 ≤ 4294967295) (h0 : 0 ≤ d0 ∧ d0 ≤ 4294967295) (hn : 0 ≤ n ∧ n < D) (hu : 0 ≤ u ∧ u ≤ 4294967295) (hQ : Dig D n u Q) (e : n = q * d1 + r) (hr : 0 ≤ r ∧ r ≤ 4294967295) (ha : Q ≤ q) (hq2 : q ≤ 4294967297) {α : Type} (X Y : α) :
    (bif decide (q ≥ 4294967296) then X else bif decide (IntKind.wrap .u64 (q * d0) > IntKind.wrap .u64 (IntKind.wrap .u64 (4294967296 * r) + u)) then X else Y) = if Q < q then X else Y := by
  have hup := dig_above hD (by omega) h0.1 hQ e
  have hq0 := hQ.q0
  have hq1 := hQ.q1
  by_cases hb : q ≥ 4294967296
  · rw [bif_t (decide_eq_true hb), if_pos (by omega)]
  · rw [bif_f (decide_eq_false hb)]
    have hm : 0 ≤ q * d0 := Int.mul_nonneg (by omega) h0.1
    have hm2 : q * d0 ≤ 4294967295 * 4294967295 := Int.mul_le_mul (by omega) h0.2 h0.1 (by omega)
    rw [wui (n := q * d0) (by omega), wui (n := 4294967296 * r) (by omega), wui (n := 4294967296 * r + u) (by omega), bif_p]
    by_cases h : Q < q
    · rw [if_pos h, if_pos (hup.2 h)]
    · rw [if_neg h, if_neg fun k => h (hup.1 k)]
theorem dig_past {D d1 d0 n u Q q r : Int} (hD : D = d1 * 4294967296 + d0) (h1 : 2147483648 ≤ d1 ∧ d1 ≤ 4294967295) (h0 : 0 ≤ d0 ∧ d0 ≤ 4294967295) (hn : 0 ≤ n ∧ n < D) (hu : 0 ≤ u ∧ u ≤ 4294967295) (hQ : Dig D n u Q) (e : n = q * d1 + r) (hr : 0 ≤ r ∧ r ≤ 4294967295) (hlt : Q < q) (hr2 : r + d1 ≥ 4294967296) : q - 1 = Q := by
  have hq0 := hQ.q0
  have e' : n = (q - 1) * d1 + (r + d1) := by rw [Int.sub_mul, Int.one_mul]; omega
  have hq2 : q - 1 ≤ 4294967295 := by
    rcases Int.lt_or_le 4294967295 (q - 1) with h | h
    · have := dig_big hD (by omega) hn.2 e' (by omega)
      omega
    · exact h
  exact dig_found hD (by omega) h0 hu.1 hQ e' hr2 ⟨by omega, hq2⟩ (by omega)
theorem first_digit {D d1 d0 n u Q : Int} (s u2 : Int) (hD : D = d1 * 4294967296 + d0) (h1 : 2147483648 ≤ d1 ∧ d1 ≤ 4294967295) (h0 : 0 ≤ d0 ∧ d0 ≤ 4294967295) (hn : 0 ≤ n ∧ n < D) (hu : 0 ≤ u ∧ u ≤ 4294967295) (hQ : Dig D n u Q) :
    ∀ (t : Nat) (q r : Int), 4294967296 - r ≤ (t : Int) * 2147483648 → n = q * d1 + r → 0 ≤ r ∧ r ≤ 4294967295 → Q ≤ q → q ≤ 4294967297 →
      itr R48_0 t (D, s, d1, d0, n, u, u2, q, r, ()) = some (D, s, d1, d0, n, u, u2, Q, ()) := by
  intro t
  induction t with
  | zero =>
    intro q r ht e hr ha hq
    omega
  | succ t ih =>
    intro q r ht e hr ha hq
    have hq0 := hQ.q0
    have hround : R48_0 (D, s, d1, d0, n, u, u2, q, r, ()) = if Q < q then (bif decide (r + d1 ≥ 4294967296) then some (.inr (D, s, d1, d0, n, u, u2, q - 1, ())) else some (.inl (D, s, d1, d0, n, u, u2, q - 1, r + d1, ()))) else some (.inr (D, s, d1, d0, n, u, u2, q, ())) := by
      unfold R48_0 Q48_0
      simp only []
      rw [← dig_test hD h1 h0 hn hu hQ e hr ha hq]
      rw [wui (n := r + d1) (by omega)]
      by_cases hlt : Q < q
      · rw [wui (n := q - 1) (by omega)]
      · have : q = Q := by omega
        have := hQ.q1
        rw [bif_f (decide_eq_false (show ¬ q ≥ 4294967296 by omega)), bif_f (decide_eq_false (show ¬ q ≥ 4294967296 by omega))]
        have hm : 0 ≤ q * d0 := Int.mul_nonneg (by omega) h0.1
        have hm2 : q * d0 ≤ 4294967295 * 4294967295 := Int.mul_le_mul (by omega) h0.2 h0.1 (by omega)
        have hup := dig_above hD (by omega) h0.1 hQ e
        rw [wui (n := q * d0) (by omega), wui (n := 4294967296 * r) (by omega), wui (n := 4294967296 * r + u) (by omega), bif_f (decide_eq_false fun k => hlt (hup.1 k)), bif_f (decide_eq_false fun k => hlt (hup.1 k))]
    rw [itr_succ, hround]
    by_cases hlt : Q < q
    · rw [if_pos hlt]
      by_cases hr2 : r + d1 ≥ 4294967296
      · rw [bif_t (decide_eq_true hr2), dig_past hD h1 h0 hn hu hQ e hr hlt hr2]
      · rw [bif_f (decide_eq_false hr2)]
        exact ih (q - 1) (r + d1) (by omega) (by rw [Int.sub_mul, Int.one_mul]; omega) (by omega) (by omega) (by omega)
    · rw [if_neg hlt, show q = Q from by omega]
theorem second_digit {D d1 d0 n u Q : Int} (s q1 : Int) (hD : D = d1 * 4294967296 + d0) (h1 : 2147483648 ≤ d1 ∧ d1 ≤ 4294967295) (h0 : 0 ≤ d0 ∧ d0 ≤ 4294967295) (hn : 0 ≤ n ∧ n < D) (hu : 0 ≤ u ∧ u ≤ 4294967295) (hQ : Dig D n u Q) (m : Int) :
    ∀ (t : Nat) (q r : Int), 4294967296 - r ≤ (t : Int) * 2147483648 → n = q * d1 + r → 0 ≤ r ∧ r ≤ 4294967295 → Q ≤ q → q ≤ 4294967297 →
      itr R48_2 t (D, s, d1, d0, u, q1, r, m, q, ()) = some (D, s, u, q1, m, Q, ()) := by
  intro t
  induction t with
  | zero =>
    intro q r ht e hr ha hq
    omega
  | succ t ih =>
    intro q r ht e hr ha hq
    have hq0 := hQ.q0
    have hround : R48_2 (D, s, d1, d0, u, q1, r, m, q, ()) = if Q < q then (bif decide (r + d1 ≥ 4294967296) then some (.inr (D, s, u, q1, m, q - 1, ())) else some (.inl (D, s, d1, d0, u, q1, r + d1, m, q - 1, ()))) else some (.inr (D, s, u, q1, m, q, ())) := by
      unfold R48_2 Q48_2
      simp only []
      rw [← dig_test hD h1 h0 hn hu hQ e hr ha hq]
      rw [wui (n := r + d1) (by omega)]
      by_cases hlt : Q < q
      · rw [wui (n := q - 1) (by omega)]
      · have : q = Q := by omega
        have := hQ.q1
        rw [bif_f (decide_eq_false (show ¬ q ≥ 4294967296 by omega)), bif_f (decide_eq_false (show ¬ q ≥ 4294967296 by omega))]
        have hm : 0 ≤ q * d0 := Int.mul_nonneg (by omega) h0.1
        have hm2 : q * d0 ≤ 4294967295 * 4294967295 := Int.mul_le_mul (by omega) h0.2 h0.1 (by omega)
        have hup := dig_above hD (by omega) h0.1 hQ e
        rw [wui (n := q * d0) (by omega), wui (n := 4294967296 * r) (by omega), wui (n := 4294967296 * r + u) (by omega), bif_f (decide_eq_false fun k => hlt (hup.1 k)), bif_f (decide_eq_false fun k => hlt (hup.1 k))]
    rw [itr_succ, hround]
    by_cases hlt : Q < q
    · rw [if_pos hlt]
      by_cases hr2 : r + d1 ≥ 4294967296
      · rw [bif_t (decide_eq_true hr2), dig_past hD h1 h0 hn hu hQ e hr hlt hr2]
      · rw [bif_f (decide_eq_false hr2)]
        exact ih (q - 1) (r + d1) (by omega) (by rw [Int.sub_mul, Int.one_mul]; omega) (by omega) (by omega) (by omega)
    · rw [if_neg hlt, show q = Q from by omega]
/-- The first guess: n / d1. -/
theorem guess {D d1 d0 n u Q : Int} (hD : D = d1 * 4294967296 + d0) (h1 : 2147483648 ≤ d1 ∧ d1 ≤ 4294967295) (h0 : 0 ≤ d0 ∧ d0 ≤ 4294967295) (hn : 0 ≤ n ∧ n < D) (hu : 0 ≤ u ∧ u ≤ 4294967295) (hQ : Dig D n u Q) :
    n = n / d1 * d1 + n % d1 ∧ (0 ≤ n % d1 ∧ n % d1 ≤ 4294967295) ∧ Q ≤ n / d1 ∧ n / d1 ≤ 4294967297 ∧ 0 ≤ n / d1 := by
  have e := Int.mul_ediv_add_emod n d1
  rw [Int.mul_comm] at e
  have r0 := Int.emod_nonneg n (show d1 ≠ 0 by omega)
  have r1 := Int.emod_lt_of_pos n (show 0 < d1 by omega)
  have q0 : 0 ≤ n / d1 := Int.ediv_nonneg hn.1 (by omega)
  have hup := dig_above hD (by omega) h0.1 hQ e.symm
  refine ⟨by omega, ⟨r0, by omega⟩, ?_, ?_, q0⟩
  · rcases Int.lt_or_le (n / d1) Q with h | h
    · exfalso
      have h2 := hQ.lo
      have h3 := Int.mul_le_mul_of_nonneg_right (show n / d1 + 1 ≤ Q by omega) (show 0 ≤ D by omega)
      have e1 : (n / d1 + 1) * D = (n / d1 * d1 + d1) * 4294967296 + (n / d1 * d0 + d0) := by rw [hD, Int.add_mul, Int.one_mul, Int.mul_add, Int.add_mul, Int.mul_assoc]; omega
      have h4 : 0 ≤ n / d1 * d0 := Int.mul_nonneg q0 h0.1
      omega
    · exact h
  · rcases Int.lt_or_le 4294967297 (n / d1) with h | h
    · exfalso
      have := Int.mul_le_mul_of_nonneg_right (show 4294967298 ≤ n / d1 by omega) (show 0 ≤ d1 by omega)
      omega
    · exact h
theorem or_parts {a b S : Int} {s : Nat} (hS : S = 2 ^ s) (ha : 0 ≤ a) (hb : 0 ≤ b ∧ b < S) (h : a * S + b ≤ 18446744073709551615) : IntKind.wrap .u64 ↑(BitVec.toNat (BitVec.ofInt 64 (a * S) ||| BitVec.ofInt 64 b)) = a * S + b := by
  have hS0 : 0 < S := by rw [hS]; exact Int.pow_pos (by decide)
  have h0 : 0 ≤ a * S := Int.mul_nonneg ha (by omega)
  obtain ⟨A, rfl⟩ := Int.eq_ofNat_of_zero_le ha
  obtain ⟨B, rfl⟩ := Int.eq_ofNat_of_zero_le hb.1
  have e : ((A : Int) * S) = ((A * 2 ^ s : Nat) : Int) := by rw [hS]; simp
  have hB : B < 2 ^ s := by have := hb.2; rw [hS] at this; exact_mod_cast this
  rw [e] at h ⊢
  have := u64_or_nat (A * 2 ^ s) B (by omega) (by omega)
  rw [show IntKind.wrap .u64 ↑(BitVec.toNat (BitVec.ofInt 64 ((A * 2 ^ s : Nat) : Int) ||| BitVec.ofInt 64 ((B : Nat) : Int))) = Go.bits .or .u64 ((A * 2 ^ s : Nat) : Int) ((B : Nat) : Int) from rfl, this, Nat.mul_comm, ← Nat.two_pow_add_eq_or_of_lt hB]
  simp
/-- Quotient and rest, by what makes them. -/
theorem div_mod_of {a b q r : Int} (hb : 0 < b) (e : a = q * b + r) (hr : 0 ≤ r ∧ r < b) : a / b = q ∧ a % b = r := by
  subst e
  refine ⟨?_, ?_⟩
  · rw [Int.add_comm, Int.add_mul_ediv_right _ _ (by omega), Int.ediv_eq_zero_of_lt hr.1 hr.2, Int.zero_add]
  · rw [Int.add_comm, Int.add_mul_emod_self_right, Int.emod_eq_of_lt hr.1 hr.2]
end Go.Proofs.Ytieeaicdpdidpaa.E
namespace Go.Proofs.Ytieeaicdpdidpaa.E
open Go
set_option linter.unusedVariables false
set_option maxRecDepth 100000
theorem wLen64 {x : Int} (h : 0 ≤ x ∧ x ≤ 18446744073709551615) : N52 (x, ()) = some (((Go.bitLen x.toNat : Nat) : Int), ()) := by
  unfold N52 M52
  simp only [fdiv_pos (show (0 : Int) ≤ 4294967296 by omega), fdiv_pos (show (0 : Int) ≤ 65536 by omega), fdiv_pos (show (0 : Int) ≤ 256 by omega)]
  generalize hT : List.toArray (List.append (List.append _ _) (List.append _ _)) = T
  have tab : ∀ i : _root_.Fin 256, T[i.val]? = some (UInt8.ofNat (Go.bitLen i.val)) := by subst hT; decide +kernel
  have l8 : ∀ i : _root_.Fin 256, ((UInt8.ofNat (Go.bitLen i.val)).toNat : Int) = ((Go.bitLen i.val : Nat) : Int) ∧ Go.bitLen i.val ≤ 8 := by decide +kernel
  clear hT
  obtain ⟨X, rfl⟩ := Int.eq_ofNat_of_zero_le h.1
  rw [Int.toNat_natCast]
  have sh := fun b (h : X / 2 ^ b ≠ 0) => Go.bitLen_shift X b h
  have key : ∀ (Y b : Nat), Y < 256 → Go.bitLen X = b + Go.bitLen Y → b ≤ 56 → ((bif decide (0 ≤ IntKind.wrap .u8 (Y : Int)) then T[Int.toNat (IntKind.wrap .u8 (Y : Int))]? else none).bind fun y3 => some (IntKind.wrap .i64 ((b : Int) + IntKind.wrap .i64 ↑(UInt8.toNat y3)), ())) = some (((Go.bitLen X : Nat) : Int), ()) := by
    intro Y b hY e hb
    have e1 : IntKind.wrap .u8 (Y : Int) = (Y : Int) := by rw [w8]; omega
    rw [e1, bif_t (decide_eq_true (by omega)), Int.toNat_natCast, tab ⟨Y, hY⟩]
    obtain ⟨k1, k2⟩ := l8 ⟨Y, hY⟩
    simp only [Option.bind_some]
    rw [k1]
    simp only at k1 k2 ⊢
    rw [wsi (n := ((Go.bitLen Y : Nat) : Int)) (by omega), wsi (by omega), e]
    congr 2
  have key0 : ∀ (Y : Nat), Y < 256 → Go.bitLen X = Go.bitLen Y → ((bif decide (0 ≤ IntKind.wrap .u8 (Y : Int)) then T[Int.toNat (IntKind.wrap .u8 (Y : Int))]? else none).bind fun y3 => some (IntKind.wrap .i64 (0 + IntKind.wrap .i64 ↑(UInt8.toNat y3)), ())) = some (((Go.bitLen X : Nat) : Int), ()) := by
    intro Y hY e
    exact key Y 0 hY (by omega) (by omega)
  have hX : X ≤ 18446744073709551615 := by omega
  have d : ∀ b : Nat, ((X : Int) / ((2 ^ b : Nat) : Int)) = ((X / 2 ^ b : Nat) : Int) := fun b => (Int.natCast_ediv _ _).symm
  have sh2 : ∀ b, 2 ^ b ≤ X → Go.bitLen X = b + Go.bitLen (X / 2 ^ b) := fun b hb => sh b (by have := Nat.div_pos hb (Nat.two_pow_pos b); omega)
  have e32 : (X : Int) / 4294967296 = ((X / 2 ^ 32 : Nat) : Int) := d 32
  have e16 : (X : Int) / 65536 = ((X / 2 ^ 16 : Nat) : Int) := d 16
  have e8 : (X : Int) / 256 = ((X / 2 ^ 8 : Nat) : Int) := d 8
  have e48 : (X : Int) / 4294967296 / 65536 = ((X / 2 ^ 48 : Nat) : Int) := by rw [Int.ediv_ediv_of_nonneg (by omega)]; exact d 48
  have e56 : (X : Int) / 4294967296 / 65536 / 256 = ((X / 2 ^ 56 : Nat) : Int) := by rw [Int.ediv_ediv_of_nonneg (by omega), Int.ediv_ediv_of_nonneg (by omega)]; exact d 56
  have e40 : (X : Int) / 4294967296 / 256 = ((X / 2 ^ 40 : Nat) : Int) := by rw [Int.ediv_ediv_of_nonneg (by omega)]; exact d 40
  have e24 : (X : Int) / 65536 / 256 = ((X / 2 ^ 24 : Nat) : Int) := by rw [Int.ediv_ediv_of_nonneg (by omega)]; exact d 24
  rw [e56, e48, e40, e32, e24, e16, e8]
  simp only [bif_p]
  have p8 : (2 : Nat) ^ 8 = 256 := rfl
  have p16 : (2 : Nat) ^ 16 = 65536 := rfl
  have p24 : (2 : Nat) ^ 24 = 16777216 := rfl
  have p32 : (2 : Nat) ^ 32 = 4294967296 := rfl
  have p40 : (2 : Nat) ^ 40 = 1099511627776 := rfl
  have p48 : (2 : Nat) ^ 48 = 281474976710656 := rfl
  have p56 : (2 : Nat) ^ 56 = 72057594037927936 := rfl
  have s8 := sh2 8
  have s16 := sh2 16
  have s24 := sh2 24
  have s32 := sh2 32
  have s40 := sh2 40
  have s48 := sh2 48
  have s56 := sh2 56
  rw [p8] at *
  rw [p16] at *
  rw [p24] at *
  rw [p32] at *
  rw [p40] at *
  rw [p48] at *
  rw [p56] at *
  by_cases h32 : X ≥ 4294967296
  · rw [if_pos (show (X : Int) ≥ 4294967296 by omega)]
    by_cases h16 : X / 4294967296 ≥ 65536
    · rw [if_pos (show ((X / 4294967296 : Nat) : Int) ≥ 65536 by omega)]
      by_cases h8 : X / 281474976710656 ≥ 256
      · rw [if_pos (show ((X / 281474976710656 : Nat) : Int) ≥ 256 by omega)]
        have := key (X / 72057594037927936) 56 (by omega) (s56 (by omega)) (by omega)
        rw [bif_p] at this; exact this
      · rw [if_neg (show ¬ ((X / 281474976710656 : Nat) : Int) ≥ 256 by omega)]
        have := key (X / 281474976710656) 48 (by omega) (s48 (by omega)) (by omega)
        rw [bif_p] at this; exact this
    · rw [if_neg (show ¬ ((X / 4294967296 : Nat) : Int) ≥ 65536 by omega)]
      by_cases h8 : X / 4294967296 ≥ 256
      · rw [if_pos (show ((X / 4294967296 : Nat) : Int) ≥ 256 by omega)]
        have := key (X / 1099511627776) 40 (by omega) (s40 (by omega)) (by omega)
        rw [bif_p] at this; exact this
      · rw [if_neg (show ¬ ((X / 4294967296 : Nat) : Int) ≥ 256 by omega)]
        have := key (X / 4294967296) 32 (by omega) (s32 (by omega)) (by omega)
        rw [bif_p] at this; exact this
  · rw [if_neg (show ¬ (X : Int) ≥ 4294967296 by omega)]
    by_cases h16 : X ≥ 65536
    · rw [if_pos (show (X : Int) ≥ 65536 by omega)]
      by_cases h8 : X / 65536 ≥ 256
      · rw [if_pos (show ((X / 65536 : Nat) : Int) ≥ 256 by omega)]
        have := key (X / 16777216) 24 (by omega) (s24 (by omega)) (by omega)
        rw [bif_p] at this; exact this
      · rw [if_neg (show ¬ ((X / 65536 : Nat) : Int) ≥ 256 by omega)]
        have := key (X / 65536) 16 (by omega) (s16 (by omega)) (by omega)
        rw [bif_p] at this; exact this
    · rw [if_neg (show ¬ (X : Int) ≥ 65536 by omega)]
      by_cases h8 : X ≥ 256
      · rw [if_pos (show (X : Int) ≥ 256 by omega)]
        have := key (X / 256) 8 (by omega) (s8 (by omega)) (by omega)
        rw [bif_p] at this; exact this
      · rw [if_neg (show ¬ (X : Int) ≥ 256 by omega)]
        have := key0 X (by omega) rfl
        rw [bif_p] at this; exact this
theorem bitLen_two (y : Int) (h : 1 ≤ y ∧ y ≤ 18446744073709551615) : 1 ≤ Go.bitLen y.toNat ∧ Go.bitLen y.toNat ≤ 64 ∧ (2 : Int) ^ (Go.bitLen y.toNat - 1) ≤ y ∧ y < 2 ^ Go.bitLen y.toNat := by
  obtain ⟨Y, rfl⟩ := Int.eq_ofNat_of_zero_le (show 0 ≤ y by omega)
  rw [Int.toNat_natCast]
  obtain ⟨h3, h2⟩ := Go.bitLen_spec Y
  have h2 := h2 (by omega)
  have h1 : 1 ≤ Go.bitLen Y := by
    rcases Nat.eq_zero_or_pos (Go.bitLen Y) with e | e
    · rw [e] at h3; omega
    · exact e
  refine ⟨h1, ?_, by exact_mod_cast h2, by exact_mod_cast h3⟩
  rcases Nat.lt_or_ge 64 (Go.bitLen Y) with h4 | h4
  · have h5 : 2 ^ 64 ≤ 2 ^ (Go.bitLen Y - 1) := Nat.pow_le_pow_right (by decide) (by omega)
    omega
  · exact h4
theorem wrap_div {m d1 : Int} {D d0 : Int} (hD : D = d1 * 4294967296 + d0) (h1 : 2147483648 ≤ d1 ∧ d1 ≤ 4294967295) (h0 : 0 ≤ d0 ∧ d0 ≤ 4294967295) (hm : 0 ≤ m ∧ m < D) {u Q : Int} (hu : 0 ≤ u ∧ u ≤ 4294967295) (hQ : Dig D m u Q) :
    IntKind.wrap .u64 (Int.tdiv m d1) = m / d1 ∧ IntKind.wrap .u64 (m - IntKind.wrap .u64 (m / d1 * d1)) = m % d1 := by
  obtain ⟨e, hr, hq, hq2, hq0⟩ := guess hD h1 h0 hm hu hQ
  have hp : 0 ≤ m / d1 * d1 := Int.mul_nonneg hq0 (by omega)
  rw [tdiv_pos hm.1, wui (n := m / d1) (by omega), wui (n := m / d1 * d1) (by omega), wui (by omega)]
  exact ⟨rfl, by omega⟩
theorem pow_min {s : Nat} (h : s ≤ 64) : (2 : Int) ^ min (Int.toNat (s : Int)) 64 = 2 ^ s := by rw [Int.toNat_natCast, Nat.min_eq_left h]
theorem wDiv64 {hi lo y : Int} (h1 : 0 ≤ hi ∧ hi < y) (hy : y ≤ 18446744073709551615) (hl : 0 ≤ lo ∧ lo ≤ 18446744073709551615) :
    N48 (hi, lo, y, ()) = some ((hi * 18446744073709551616 + lo) / y, (hi * 18446744073709551616 + lo) % y, ()) := by
  unfold N48 M48
  simp only []
  rw [bif_f (show (y == 0) = false from by simp; omega), bif_f (decide_eq_false (by omega))]
  by_cases h0 : hi = 0
  · rw [bif_t (show (hi == 0) = true from by simpa using h0), bif_t (show (!y == 0) = true from by simp; omega)]
    simp only [Option.bind_some]
    rw [h0, Int.zero_mul, Int.zero_add, tdiv_pos hl.1, tmod_pos hl.1]
    have a1 : 0 ≤ lo / y := Int.ediv_nonneg hl.1 (by omega)
    have a2 : lo / y ≤ lo := Int.ediv_le_self _ hl.1
    rw [wui (by omega)]
  · rw [bif_f (show (hi == 0) = false from by simpa using h0)]
    obtain ⟨l1, l2, l3, l4⟩ := bitLen_two y (by omega)
    have hlz : N51 (y, ()) = some (((64 - Go.bitLen y.toNat : Nat) : Int), ()) := by
      unfold N51 M51
      simp only []
      rw [wLen64 (by omega)]
      simp only [Option.bind_some]
      rw [wsi (by omega)]
      congr 2
      omega
    rw [hlz]
    simp only [Option.bind_some]
    generalize hL : Go.bitLen y.toNat = L at *
    obtain ⟨s, hs⟩ : ∃ s, s = 64 - L := ⟨_, rfl⟩
    rw [← hs, wui (n := (s : Int)) (by omega), show (64 : Int) - s = ((64 - s : Nat) : Int) from by omega, wui (n := ((64 - s : Nat) : Int)) (by omega)]
    rw [bif_t (decide_eq_true (show (0 : Int) ≤ (s : Int) by omega)), bif_t (decide_eq_true (show (0 : Int) ≤ ((64 - s : Nat) : Int) by omega))]
    simp only [Option.bind_some]
    rw [pow_min (by omega), pow_min (by omega)]
    have hST : (2 : Int) ^ s * 2 ^ (64 - s) = 18446744073709551616 := by rw [← Int.pow_add, show s + (64 - s) = 64 from by omega]; decide
    have hS : (0 : Int) < 2 ^ s := Int.pow_pos (by decide)
    have hT : (0 : Int) < 2 ^ (64 - s) := Int.pow_pos (by decide)
    have hTL : (2 : Int) ^ (64 - s) = 2 ^ L := by rw [show 64 - s = L from by omega]
    have hT1 : (2 : Int) ^ (64 - s) = 2 * 2 ^ (L - 1) := by
      have e : (2 : Int) ^ L = 2 ^ (L - 1 + 1) := by congr 1; omega
      rw [hTL, e, Int.pow_succ]; omega
    have hD1 : y * 2 ^ s ≤ 18446744073709551616 - 2 ^ s := by
      have := Int.mul_le_mul_of_nonneg_right (show y + 1 ≤ 2 ^ (64 - s) by omega) (Int.le_of_lt hS)
      rw [Int.add_mul, Int.one_mul, Int.mul_comm (2 ^ (64 - s))] at this
      omega
    have hD2 : 9223372036854775808 ≤ y * 2 ^ s := by
      have := Int.mul_le_mul_of_nonneg_right (show 2 ^ (64 - s) ≤ 2 * y by omega) (Int.le_of_lt hS)
      rw [Int.mul_comm (2 ^ (64 - s)), Int.mul_assoc] at this
      omega
    have hhi : hi * 2 ^ s ≤ y * 2 ^ s - 2 ^ s := by
      have := Int.mul_le_mul_of_nonneg_right (show hi + 1 ≤ y by omega) (Int.le_of_lt hS)
      rw [Int.add_mul, Int.one_mul] at this
      omega
    have hhi0 : 0 ≤ hi * 2 ^ s := Int.mul_nonneg h1.1 (Int.le_of_lt hS)
    have hlT : 0 ≤ lo / 2 ^ (64 - s) ∧ lo / 2 ^ (64 - s) < 2 ^ s := ⟨Int.ediv_nonneg hl.1 (Int.le_of_lt hT), Int.ediv_lt_of_lt_mul hT (by omega)⟩
    rw [wui (n := y * 2 ^ s) (by omega), wui (n := hi * 2 ^ s) (by omega), fdiv_pos (a := lo) (b := 2 ^ (64 - s)) (by omega), wu (lo * 2 ^ s)]
    rw [or_parts rfl h1.1 hlT (by omega)]
    have hlo2 : lo * 2 ^ s = lo / 2 ^ (64 - s) * 18446744073709551616 + lo * 2 ^ s % 18446744073709551616 := by
      have e1 := Int.mul_ediv_add_emod lo (2 ^ (64 - s))
      have e2 : lo * 2 ^ s / 18446744073709551616 = lo / 2 ^ (64 - s) := by
        rw [← hST, Int.mul_comm lo, Int.mul_ediv_mul_of_pos _ _ hS]
      have e3 := Int.mul_ediv_add_emod (lo * 2 ^ s) 18446744073709551616
      rw [e2] at e3
      omega
    generalize hlx : lo / 2 ^ (64 - s) = t at *
    generalize hly : lo * 2 ^ s % 18446744073709551616 = x at *
    have hx : 0 ≤ x ∧ x < 18446744073709551616 := by rw [← hly]; omega
    generalize hDy : y * 2 ^ s = D at *
    rw [fdiv_pos (a := D) (b := 4294967296) (by omega), fdiv_pos (a := x) (b := 4294967296) (by omega), bif_t (show (!D / 4294967296 == 0) = true from by simp; omega)]
    simp only [Option.bind_some]
    rw [and_low (z := D) (by omega), and_low (z := x) (by omega)]
    -- the two digits
    have gD : D = D / 4294967296 * 4294967296 + D % 4294967296 := by omega
    have gd1 : 2147483648 ≤ D / 4294967296 ∧ D / 4294967296 ≤ 4294967295 := by omega
    have gd0 : 0 ≤ D % 4294967296 ∧ D % 4294967296 ≤ 4294967295 := by omega
    have gn : 0 ≤ hi * 2 ^ s + t ∧ hi * 2 ^ s + t < D := by omega
    have gu1 : 0 ≤ x / 4294967296 ∧ x / 4294967296 ≤ 4294967295 := by omega
    have gu0 : 0 ≤ x % 4294967296 ∧ x % 4294967296 ≤ 4294967295 := by omega
    have gx : x = x / 4294967296 * 4294967296 + x % 4294967296 := by omega
    generalize D / 4294967296 = d1 at *
    generalize D % 4294967296 = d0 at *
    generalize x / 4294967296 = u1 at *
    generalize x % 4294967296 = u0 at *
    generalize hne : hi * 2 ^ s + t = n at *
    have hD0 : 0 < D := by omega
    have hQ1 := dig_of hD0 gn gu1
    generalize (n * 4294967296 + u1) / D = Q1 at hQ1
    have a1 := hQ1.lo
    have a2 := hQ1.hi
    have a3 := hQ1.q0
    have a4 := hQ1.q1
    have hn2 : 0 ≤ n * 4294967296 + u1 - Q1 * D ∧ n * 4294967296 + u1 - Q1 * D < D := by omega
    have hQ0 := dig_of hD0 hn2 gu0
    generalize hn2e : n * 4294967296 + u1 - Q1 * D = n2 at *
    generalize (n2 * 4294967296 + u0) / D = Q0 at hQ0
    have b1 := hQ0.lo
    have b2 := hQ0.hi
    have b3 := hQ0.q0
    have b4 := hQ0.q1
    obtain ⟨w1, w2⟩ := wrap_div gD gd1 gd0 gn gu1 hQ1
    obtain ⟨e, hr, hq, hq2, hq0⟩ := guess gD gd1 gd0 gn gu1 hQ1
    rw [w1, w2]
    have F1 := itrs_of (first_digit (s : Int) u0 gD gd1 gd0 gn gu1 hQ1 2 (n / d1) (n % d1) (by omega) e hr hq hq2) (by omega)
    rw [F1]
    simp only [Option.bind_some]
    rw [bif_t (show (!d1 == 0) = true from by simp; omega)]
    simp only [Option.bind_some]
    have e21 : IntKind.wrap .u64 (IntKind.wrap .u64 (IntKind.wrap .u64 (n * 4294967296) + u1) - IntKind.wrap .u64 (Q1 * D)) = n2 := by
      simp only [wu]
      omega
    rw [e21]
    obtain ⟨w3, w4⟩ := wrap_div gD gd1 gd0 hn2 gu0 hQ0
    obtain ⟨f, fr, fq, fq2, fq0⟩ := guess gD gd1 gd0 hn2 gu0 hQ0
    rw [w3, w4]
    have F2 := itrs_of (second_digit (s : Int) Q1 gD gd1 gd0 hn2 gu0 hQ0 n2 2 (n2 / d1) (n2 % d1) (by omega) f fr fq fq2) (by omega)
    rw [F2]
    simp only [Option.bind_some]
    rw [bif_t (decide_eq_true (show (0 : Int) ≤ (s : Int) by omega))]
    simp only [Option.bind_some]
    rw [pow_min (by omega)]
    have e22 : IntKind.wrap .u64 (IntKind.wrap .u64 (IntKind.wrap .u64 (n2 * 4294967296) + u0) - IntKind.wrap .u64 (Q0 * D)) = n2 * 4294967296 + u0 - Q0 * D := by
      simp only [wu]
      omega
    rw [e22, wui (n := Q1 * 4294967296) (by omega), wui (n := Q1 * 4294967296 + Q0) (by omega), fdiv_pos (by omega)]
    generalize hre : n2 * 4294967296 + u0 - Q0 * D = r2 at *
    generalize hqe : Q1 * 4294967296 + Q0 = q at *
    have eq2 : n * 18446744073709551616 + x = q * D + r2 := by
      rw [← hqe, Int.add_mul, Int.mul_assoc, Int.mul_comm 4294967296 D, ← Int.mul_assoc]
      omega
    have eM : (hi * 18446744073709551616 + lo) * 2 ^ s = q * D + r2 := by
      rw [Int.add_mul, hlo2, Int.mul_right_comm]
      omega
    have er : r2 = (hi * 18446744073709551616 + lo - q * y) * 2 ^ s := by
      rw [Int.sub_mul, Int.mul_assoc q y, hDy]
      omega
    have e1 : r2 / 2 ^ s = hi * 18446744073709551616 + lo - q * y := by rw [er, Int.mul_ediv_cancel _ (by omega)]
    have r0 : 0 ≤ r2 := by omega
    have r1 : r2 < D := by omega
    have hr0 : 0 ≤ hi * 18446744073709551616 + lo - q * y := by rw [← e1]; exact Int.ediv_nonneg r0 (Int.le_of_lt hS)
    have hr1 : hi * 18446744073709551616 + lo - q * y < y := by rw [← e1]; exact Int.ediv_lt_of_lt_mul hS (by rw [hDy]; exact r1)
    obtain ⟨f1, f2⟩ := div_mod_of (a := hi * 18446744073709551616 + lo) (b := y) (q := q) (r := hi * 18446744073709551616 + lo - q * y) (by omega) (by omega) ⟨hr0, hr1⟩
    rw [f1, f2, e1]
end Go.Proofs.Ytieeaicdpdidpaa.E
namespace Go.Proofs.Ytieeaicdpdidpaa.E
open Go
set_option linter.unusedVariables false
set_option maxRecDepth 100000
theorem and_bit {x : Int} (h : 0 ≤ x ∧ x ≤ 18446744073709551615) : IntKind.wrap .u64 ↑(BitVec.toNat (BitVec.ofInt 64 x &&& BitVec.ofInt 64 1)) = x % 2 := by
  obtain ⟨X, rfl⟩ := Int.eq_ofNat_of_zero_le h.1
  have := u64_and_nat X 1 (by omega) (by omega)
  rw [show IntKind.wrap .u64 ↑(BitVec.toNat (BitVec.ofInt 64 (X : Int) &&& BitVec.ofInt 64 1)) = Go.bits .and .u64 (X : Int) ((1 : Nat) : Int) from rfl, this, Nat.and_one_is_mod]
  simp
theorem two_step {a : Int} {m : Nat} : a / 2 ^ m = 2 * (a / 2 ^ (m + 1)) + a / 2 ^ m % 2 := by
  have hp : (0 : Int) < 2 ^ m := Int.pow_pos (by decide)
  rw [Int.pow_succ, ← Int.ediv_ediv_of_nonneg (Int.le_of_lt hp)]
  omega
theorem qr_l0 (a al bh bl : Int) (hbh : 0 ≤ bh) (hbl : 0 ≤ bl ∧ bl ≤ 18446744073709551615) (hB : bh * 18446744073709551616 + bl ≤ 170141183460469231731687303715884105728) (hB0 : 18446744073709551616 ≤ bh * 18446744073709551616 + bl)
    (hal : 0 ≤ al ∧ al ≤ 18446744073709551615) (ha : 0 ≤ a) (hal2 : a % 18446744073709551616 = al) (haB : a < (bh * 18446744073709551616 + bl) * 18446744073709551616) : ∀ (m : Nat) (Q R : Int), m ≤ 64 →
      a / 2 ^ m = Q * (bh * 18446744073709551616 + bl) + R → 0 ≤ R ∧ R < bh * 18446744073709551616 + bl → 0 ≤ Q →
      itr R33_0 (m + 1) (al, bh, bl, Q * 2 ^ m, R / 18446744073709551616, R % 18446744073709551616, (m : Int) - 1, ()) =
        some (a / (bh * 18446744073709551616 + bl), a % (bh * 18446744073709551616 + bl) / 18446744073709551616, a % (bh * 18446744073709551616 + bl) % 18446744073709551616, ()) := by
  intro m
  induction m with
  | zero =>
    intro Q R hm e hR hQ
    rw [Int.pow_zero, Int.ediv_one] at e
    obtain ⟨e1, e2⟩ := div_mod_of (by omega) e hR
    refine itr_out ?_
    unfold R33_0 Q33_0
    simp only []
    rw [bif_f (decide_eq_false (by omega)), e1, e2, Int.pow_zero, Int.mul_one]
  | succ m ih =>
    intro Q R hm e hR hQ
    have hp : (0 : Int) < 2 ^ m := Int.pow_pos (by decide)
    have hp2 : (2 : Int) ^ (m + 1) = 2 * 2 ^ m := by rw [Int.pow_succ]; omega
    have hstep := two_step (a := a) (m := m)
    have hbit : 0 ≤ a / 2 ^ m % 2 ∧ a / 2 ^ m % 2 ≤ 1 := by omega
    have ebit : al / 2 ^ m % 2 = a / 2 ^ m % 2 := by
      have h1 := Int.mul_ediv_add_emod a 18446744073709551616
      rw [hal2] at h1
      have h2 : (18446744073709551616 : Int) = 2 ^ m * (2 * 2 ^ (63 - m)) := by
        rw [show (18446744073709551616 : Int) = 2 ^ 64 from by decide, show (64 : Nat) = m + (1 + (63 - m)) from by omega, Int.pow_add, Int.pow_add]
        rfl
      have h3 : a / 2 ^ m = 2 * (2 ^ (63 - m) * (a / 18446744073709551616)) + al / 2 ^ m := by
        conv => lhs; rw [← h1, h2]
        rw [show (2 : Int) ^ m * (2 * 2 ^ (63 - m)) * (a / (2 ^ m * (2 * 2 ^ (63 - m)))) + al = al + 2 ^ m * (2 * (2 ^ (63 - m) * (a / (2 ^ m * (2 * 2 ^ (63 - m)))))) from by
          rw [Int.mul_assoc (2 ^ m), Int.mul_assoc 2]; omega, Int.add_mul_ediv_left _ _ (by omega), ← h2]
        omega
      omega
    have o1 : IntKind.wrap .u64 ↑(BitVec.toNat (BitVec.ofInt 64 (IntKind.wrap .u64 (R / 18446744073709551616 * 2)) ||| BitVec.ofInt 64 (Int.fdiv (R % 18446744073709551616) 9223372036854775808))) = (2 * R + a / 2 ^ m % 2) / 18446744073709551616 := by
      rw [fdiv_pos (by omega), wui (n := R / 18446744073709551616 * 2) (by omega), or_parts (s := 1) (by rfl) (by omega) (by omega) (by omega)]
      omega
    have o2 : IntKind.wrap .u64 ↑(BitVec.toNat (BitVec.ofInt 64 (IntKind.wrap .u64 (R % 18446744073709551616 * 2)) ||| BitVec.ofInt 64 (IntKind.wrap .u64 ↑(BitVec.toNat (BitVec.ofInt 64 (Int.fdiv al (2 ^ min (Int.toNat (m : Int)) 64)) &&& BitVec.ofInt 64 1))))) = (2 * R + a / 2 ^ m % 2) % 18446744073709551616 := by
      have hs0 : 0 ≤ al / 2 ^ m := Int.ediv_nonneg hal.1 (Int.le_of_lt hp)
      have hs1 : al / 2 ^ m ≤ al := Int.ediv_le_self _ hal.1
      rw [pow_min (by omega), fdiv_pos (by omega), and_bit (by omega), ebit, show IntKind.wrap .u64 (R % 18446744073709551616 * 2) = R % 9223372036854775808 * 2 from by rw [wu]; omega, or_parts (s := 1) (by rfl) (by omega) (by omega) (by omega)]
      omega
    have eR : a / 2 ^ m = 2 * Q * (bh * 18446744073709551616 + bl) + (2 * R + a / 2 ^ m % 2) := by
      rw [Int.mul_assoc]; omega
    have hR' : 0 ≤ 2 * R + a / 2 ^ m % 2 ∧ 2 * R + a / 2 ^ m % 2 < 2 * (bh * 18446744073709551616 + bl) := by omega
    have hround : R33_0 (al, bh, bl, Q * 2 ^ (m + 1), R / 18446744073709551616, R % 18446744073709551616, (m : Int), ()) =
        if bh * 18446744073709551616 + bl ≤ 2 * R + a / 2 ^ m % 2 then some (.inl (al, bh, bl, (2 * Q + 1) * 2 ^ m, (2 * R + a / 2 ^ m % 2 - (bh * 18446744073709551616 + bl)) / 18446744073709551616, (2 * R + a / 2 ^ m % 2 - (bh * 18446744073709551616 + bl)) % 18446744073709551616, (m : Int) - 1, ()))
        else some (.inl (al, bh, bl, 2 * Q * 2 ^ m, (2 * R + a / 2 ^ m % 2) / 18446744073709551616, (2 * R + a / 2 ^ m % 2) % 18446744073709551616, (m : Int) - 1, ())) := by
      unfold R33_0 Q33_0
      simp only []
      rw [bif_t (decide_eq_true (by omega))]
      rw [bif_t (decide_eq_true (show (0 : Int) ≤ (m : Int) by omega))]
      simp only [Option.bind_some]
      rw [o1, o2, wsi (n := (m : Int) - 1) (by omega)]
      generalize hRe : 2 * R + a / 2 ^ m % 2 = R' at *
      have hno : Q * 2 ^ (m + 1) = 2 * Q * 2 ^ m := by rw [hp2, Int.mul_comm 2 Q, Int.mul_assoc]
      have sub : bh * 18446744073709551616 + bl ≤ R' → (Option.bind (α := Int × Int × Unit) ((cSub64 (τ := τ)).f (R' % 18446744073709551616, bl, 0, ())) fun ⟨y3_0, ⟨y3_1, ()⟩⟩ => (Option.bind (α := Int × Int × Unit) ((cSub64 (τ := τ)).f (R' / 18446744073709551616, bh, y3_1, ())) fun ⟨y4_0, ⟨y4_1, ()⟩⟩ => (some () : Option Unit).bind fun () => (some (.inl (al, bh, bl, IntKind.wrap .u64 ↑(BitVec.toNat (BitVec.ofInt 64 (Q * 2 ^ (m + 1)) ||| BitVec.ofInt 64 (IntKind.wrap .u64 (1 * 2 ^ min (Int.toNat (m : Int)) 64)))), y4_0, y3_0, (m : Int) - 1, ())) : Option (LA33_0 ⊕ LB33_0))))
          = some (.inl (al, bh, bl, (2 * Q + 1) * 2 ^ m, (R' - (bh * 18446744073709551616 + bl)) / 18446744073709551616, (R' - (bh * 18446744073709551616 + bl)) % 18446744073709551616, (m : Int) - 1, ())) := by
        intro hle
        have hQm : (2 * Q + 1) * 2 ^ m ≤ 18446744073709551615 := by
          have h1 : (2 * Q + 1) * (bh * 18446744073709551616 + bl) ≤ a / 2 ^ m := by rw [Int.add_mul, Int.one_mul]; omega
          have h2 := Int.mul_le_mul_of_nonneg_right h1 (Int.le_of_lt hp)
          have h3 : a / 2 ^ m * 2 ^ m ≤ a := Int.ediv_mul_le a (by omega)
          rw [Int.mul_right_comm] at h2
          rcases Int.lt_or_le 18446744073709551615 ((2 * Q + 1) * 2 ^ m) with h4 | h4
          · exfalso
            have h5 := Int.mul_le_mul_of_nonneg_right (show 18446744073709551616 ≤ (2 * Q + 1) * 2 ^ m by omega) (show 0 ≤ bh * 18446744073709551616 + bl by omega)
            rw [Int.mul_comm 18446744073709551616] at h5
            omega
          · exact h4
        have hQm2 : (2 * Q + 1) * 2 ^ m = Q * 2 ^ (m + 1) + 2 ^ m := by rw [hp2, Int.add_mul, Int.one_mul, Int.mul_comm 2 Q, Int.mul_assoc]
        have hQ0 : 0 ≤ Q * 2 ^ (m + 1) := Int.mul_nonneg hQ (by omega)
        rw [sub64_f (by omega) hbl (by omega)]
        simp only [Option.bind_some]
        rw [sub64_f (by omega) (by omega) (by omega)]
        simp only [Option.bind_some]
        rw [pow_min (by omega), Int.one_mul, wui (n := 2 ^ m) (by omega), or_parts (s := m + 1) rfl hQ (by omega) (by omega), hQm2]
        have p1 : (R' % 18446744073709551616 - bl - 0) % 18446744073709551616 = (R' - (bh * 18446744073709551616 + bl)) % 18446744073709551616 := by omega
        have p2 : (R' / 18446744073709551616 - bh - -((R' % 18446744073709551616 - bl - 0) / 18446744073709551616)) % 18446744073709551616 = (R' - (bh * 18446744073709551616 + bl)) / 18446744073709551616 := by omega
        rw [p2, p1]
      by_cases g1 : R' / 18446744073709551616 > bh
      · rw [bif_t (decide_eq_true g1), if_pos (by omega)]
        exact sub (by omega)
      · rw [bif_f (decide_eq_false g1)]
        by_cases g2 : R' / 18446744073709551616 = bh
        · rw [bif_t (show (R' / 18446744073709551616 == bh) = true from by simpa using g2)]
          by_cases g3 : R' % 18446744073709551616 ≥ bl
          · rw [bif_t (decide_eq_true g3), if_pos (by omega)]
            exact sub (by omega)
          · rw [bif_f (decide_eq_false g3), if_neg (by omega), hno]
        · rw [bif_f (show (R' / 18446744073709551616 == bh) = false from by simpa using g2), if_neg (by omega), hno]
    rw [itr_succ, show (((m + 1 : Nat) : Int) - 1) = (m : Int) from by omega, hround]
    by_cases hle : bh * 18446744073709551616 + bl ≤ 2 * R + a / 2 ^ m % 2
    · rw [if_pos hle]
      exact ih (2 * Q + 1) (2 * R + a / 2 ^ m % 2 - (bh * 18446744073709551616 + bl)) (by omega) (by rw [Int.add_mul, Int.one_mul]; omega) (by omega) (by omega)
    · rw [if_neg hle]
      exact ih (2 * Q) (2 * R + a / 2 ^ m % 2) (by omega) eR (by omega) (by omega)
theorem wquoRem {ah al bh bl : Int} (h1 : 0 ≤ ah ∧ ah ≤ 18446744073709551615) (h2 : 0 ≤ al ∧ al ≤ 18446744073709551615) (h3 : 0 ≤ bh ∧ bh ≤ 18446744073709551615) (h4 : 0 ≤ bl ∧ bl ≤ 18446744073709551615)
    (hB : 1 ≤ bh * 18446744073709551616 + bl ∧ bh * 18446744073709551616 + bl ≤ 170141183460469231731687303715884105728) :
    N33 (ah, al, bh, bl, ()) = some ((ah * 18446744073709551616 + al) / (bh * 18446744073709551616 + bl) / 18446744073709551616, (ah * 18446744073709551616 + al) / (bh * 18446744073709551616 + bl) % 18446744073709551616,
      (ah * 18446744073709551616 + al) % (bh * 18446744073709551616 + bl) / 18446744073709551616, (ah * 18446744073709551616 + al) % (bh * 18446744073709551616 + bl) % 18446744073709551616, ()) := by
  unfold N33 M33
  simp only []
  by_cases h0 : bh = 0
  · rw [bif_t (show (bh == 0) = true from by simpa using h0), bif_t (show (!bl == 0) = true from by simp; omega)]
    simp only [Option.bind_some]
    rw [tmod_pos h1.1, tdiv_pos h1.1]
    have r0 := Int.emod_nonneg ah (show bl ≠ 0 by omega)
    have r1 := Int.emod_lt_of_pos ah (show 0 < bl by omega)
    have q0 : 0 ≤ ah / bl := Int.ediv_nonneg h1.1 (by omega)
    have q1 : ah / bl ≤ ah := Int.ediv_le_self _ h1.1
    have e := Int.mul_ediv_add_emod ah bl
    rw [Int.mul_comm] at e
    rw [wDiv64 ⟨r0, r1⟩ h4.2 h2]
    simp only [Option.bind_some]
    rw [wui (n := ah / bl) (by omega)]
    generalize ah % bl = r at *
    generalize ah / bl = q at *
    have f := Int.mul_ediv_add_emod (r * 18446744073709551616 + al) bl
    have f0 := Int.emod_nonneg (r * 18446744073709551616 + al) (show bl ≠ 0 by omega)
    have f1 := Int.emod_lt_of_pos (r * 18446744073709551616 + al) (show 0 < bl by omega)
    have g0 : 0 ≤ (r * 18446744073709551616 + al) / bl := Int.ediv_nonneg (by omega) (by omega)
    have g1 : (r * 18446744073709551616 + al) / bl < 18446744073709551616 := Int.ediv_lt_of_lt_mul (by omega) (by omega)
    rw [Int.mul_comm] at f
    generalize (r * 18446744073709551616 + al) / bl = t at *
    generalize (r * 18446744073709551616 + al) % bl = u at *
    have e0 : ah * 18446744073709551616 + al = (q * 18446744073709551616 + t) * (bh * 18446744073709551616 + bl) + u := by
      rw [h0, Int.zero_mul, Int.zero_add, Int.add_mul, Int.mul_right_comm]
      omega
    obtain ⟨d1, d2⟩ := div_mod_of (by omega) e0 ⟨f0, by omega⟩
    rw [d1, d2]
    congr 2
    · omega
    · congr 1
      · omega
      · congr 1
        · omega
        · congr 1; omega
  · rw [bif_f (show (bh == 0) = false from by simpa using h0)]
    have h := qr_l0 (ah * 18446744073709551616 + al) al bh bl h3.1 h4 hB.2 (by omega) h2 (by omega) (by omega) (by omega) 64 0 ah (by omega) (by rw [show (2 : Int) ^ 64 = 18446744073709551616 from by decide]; omega) (by omega) (by omega)
    rw [Int.zero_mul, show ah / 18446744073709551616 = 0 from by omega, show ah % 18446744073709551616 = ah from by omega] at h
    rw [show ((64 : Nat) : Int) - 1 = 63 from by decide] at h
    rw [itrs_of h (by omega)]
    simp only [Option.bind_some]
    have q1 : (ah * 18446744073709551616 + al) / (bh * 18446744073709551616 + bl) < 18446744073709551616 := Int.ediv_lt_of_lt_mul (by omega) (by omega)
    have q0 : 0 ≤ (ah * 18446744073709551616 + al) / (bh * 18446744073709551616 + bl) := Int.ediv_nonneg (by omega) (by omega)
    congr 2
    · omega
    · congr 1
      omega
end Go.Proofs.Ytieeaicdpdidpaa.E
namespace Go.Proofs.Ytieeaicdpdidpaa.E
open Go
set_option linter.unusedVariables false
set_option maxRecDepth 100000
/-- The number of a row of digits, the lowest first. -/
def dv : List Int → Int
  | [] => 0
  | x :: r => x + 65536 * dv r
def D16 (x : Int) : Prop := 0 ≤ x ∧ x ≤ 65535
def Long (l : List Int) (V : Int) : Prop := l.length = 12 ∧ (∀ x ∈ l, D16 x) ∧ dv l = V
theorem Long.open {l : List Int} {V : Int} (h : Long l V) : ∃ d0 d1 d2 d3 d4 d5 d6 d7 d8 d9 d10 d11, l = [d0, d1, d2, d3, d4, d5, d6, d7, d8, d9, d10, d11] ∧ D16 d0 ∧ D16 d1 ∧ D16 d2 ∧ D16 d3 ∧ D16 d4 ∧ D16 d5 ∧ D16 d6 ∧ D16 d7 ∧ D16 d8 ∧ D16 d9 ∧ D16 d10 ∧ D16 d11 ∧
    V = d0 + 65536 * (d1 + 65536 * (d2 + 65536 * (d3 + 65536 * (d4 + 65536 * (d5 + 65536 * (d6 + 65536 * (d7 + 65536 * (d8 + 65536 * (d9 + 65536 * (d10 + 65536 * (d11 + 65536 * 0))))))))))) := by
  obtain ⟨h1, h2, h3⟩ := h
  match l, h1 with
  | [d0, d1, d2, d3, d4, d5, d6, d7, d8, d9, d10, d11], _ =>
    simp only [List.mem_cons, List.not_mem_nil, or_false, forall_eq_or_imp, forall_eq] at h2
    exact ⟨d0, d1, d2, d3, d4, d5, d6, d7, d8, d9, d10, d11, rfl, h2.1, h2.2.1, h2.2.2.1, h2.2.2.2.1, h2.2.2.2.2.1, h2.2.2.2.2.2.1, h2.2.2.2.2.2.2.1, h2.2.2.2.2.2.2.2.1, h2.2.2.2.2.2.2.2.2.1, h2.2.2.2.2.2.2.2.2.2.1, h2.2.2.2.2.2.2.2.2.2.2.1, h2.2.2.2.2.2.2.2.2.2.2.2, h3.symm⟩
theorem Long.in {l : List Int} {V : Int} (h : Long l V) : 0 ≤ V ∧ V ≤ 6277101735386680763835789423207666416102355444464034512895 := by
  obtain ⟨d0, d1, d2, d3, d4, d5, d6, d7, d8, d9, d10, d11, rfl, k0, k1, k2, k3, k4, k5, k6, k7, k8, k9, k10, k11, e⟩ := h.open
  unfold D16 at *
  omega
/-! ### sums -/
/-- A sum with its carry. -/
def addc : Int → List Int → List Int → List Int
  | c, x :: xs, y :: ys =>
    Int.tmod (IntKind.wrap .u64 (IntKind.wrap .u64 (c + x) + y)) 65536 :: addc (IntKind.wrap .u64 (Int.tdiv (IntKind.wrap .u64 (IntKind.wrap .u64 (c + x) + y)) 65536)) xs ys
  | _, _, _ => []
theorem addc_spec : ∀ (xs ys : List Int) (c : Int), (∀ x ∈ xs, D16 x) → (∀ y ∈ ys, D16 y) → xs.length = ys.length → 0 ≤ c ∧ c ≤ 1 → (addc c xs ys).length = xs.length ∧ (∀ z ∈ addc c xs ys, D16 z) ∧ ∃ k, 0 ≤ k ∧ k ≤ 1 ∧ dv (addc c xs ys) + 65536 ^ xs.length * k = c + dv xs + dv ys
  | [], [], c, _, _, _, hc => ⟨rfl, (fun z hz => by cases hz), c, hc.1, hc.2, by simp [addc, dv]⟩
  | x :: xs, y :: ys, c, hx, hy, hl, hc => by
    have hx0 := hx x (by simp)
    have hy0 := hy y (by simp)
    unfold D16 at hx0 hy0
    have e1 : IntKind.wrap .u64 (IntKind.wrap .u64 (c + x) + y) = c + x + y := by rw [wui (n := c + x) (by omega), wui (by omega)]
    have e2 : IntKind.wrap .u64 (Int.tdiv (c + x + y) 65536) = (c + x + y) / 65536 := by rw [tdiv_pos (by omega), wui (by omega)]
    obtain ⟨i1, i2, k, k0, k1, k2⟩ := addc_spec xs ys ((c + x + y) / 65536) (fun z hz => hx z (by simp [hz])) (fun z hz => hy z (by simp [hz])) (by simpa using hl) (by omega)
    unfold addc
    rw [e1, e2, tmod_pos (by omega)]
    refine ⟨by simp [i1], fun z hz => ?_, k, k0, k1, ?_⟩
    · rcases List.mem_cons.1 hz with rfl | hz
      · unfold D16; omega
      · exact i2 z hz
    · simp only [dv, List.length_cons, Int.pow_succ]
      generalize (65536 : Int) ^ xs.length = p at *
      have : p * 65536 * k = 65536 * (p * k) := by grind
      rw [this]
      generalize p * k = q at *
      omega
theorem rPlus {a b : List Int} {A B : Int} (ha : Long a A) (hb : Long b B) : ∃ l, N49 (a, b, ()) = some (l, ()) ∧ Long l ((A + B) % 6277101735386680763835789423207666416102355444464034512896) := by
  have hlen : a.length = 12 := ha.1
  obtain ⟨h1, h2, k, k0, k1, k2⟩ := addc_spec a b 0 ha.2.1 hb.2.1 (ha.1.trans hb.1.symm) (by omega)
  refine ⟨addc 0 a b, ?_, h1.trans ha.1, h2, ?_⟩
  · unfold N49 M49
    obtain ⟨a0, a1, a2, a3, a4, a5, a6, a7, a8, a9, a10, a11, rfl, _⟩ := ha.open
    obtain ⟨b0, b1, b2, b3, b4, b5, b6, b7, b8, b9, b10, b11, rfl, _⟩ := hb.open
    have : itrs R49_0 ([a0, a1, a2, a3, a4, a5, a6, a7, a8, a9, a10, a11], [b0, b1, b2, b3, b4, b5, b6, b7, b8, b9, b10, b11], List.replicate 12 0, 0, 0, ()) = some (addc 0 [a0, a1, a2, a3, a4, a5, a6, a7, a8, a9, a10, a11] [b0, b1, b2, b3, b4, b5, b6, b7, b8, b9, b10, b11], List.replicate 12 0, ()) := itrs_of (n := 13) (by kernel_rfl) (by omega)
    simp only [this, Option.bind_some]
  · have hv : Long (addc 0 a b) (dv (addc 0 a b)) := ⟨h1.trans ha.1, h2, rfl⟩
    have := hv.in
    rw [hlen, ha.2.2, hb.2.2, show (65536 : Int) ^ 12 = 6277101735386680763835789423207666416102355444464034512896 from by decide] at k2
    omega
/-! ### opposites -/
def turn : List Int → List Int
  | [] => []
  | x :: xs => IntKind.wrap .u64 (65535 - x) :: turn xs
theorem turn_spec : ∀ (xs : List Int), (∀ x ∈ xs, D16 x) → (turn xs).length = xs.length ∧ (∀ z ∈ turn xs, D16 z) ∧ dv (turn xs) + dv xs + 1 = 65536 ^ xs.length
  | [], _ => ⟨rfl, (fun z hz => by cases hz), by simp [turn, dv]⟩
  | x :: xs, hx => by
    have hx0 := hx x (by simp)
    unfold D16 at hx0
    obtain ⟨i1, i2, i3⟩ := turn_spec xs fun z hz => hx z (by simp [hz])
    unfold turn
    rw [wui (by omega)]
    refine ⟨by simp [i1], fun z hz => ?_, ?_⟩
    · rcases List.mem_cons.1 hz with rfl | hz
      · unfold D16; omega
      · exact i2 z hz
    · simp only [dv, List.length_cons, Int.pow_succ]
      omega
theorem Long_one : Long [1, 0, 0, 0, 0, 0, 0, 0, 0, 0, 0, 0] 1 := by
  refine ⟨rfl, ?_, rfl⟩
  simp [D16]
theorem rTurned {a : List Int} {A : Int} (ha : Long a A) : ∃ l, N46 (a, ()) = some (l, ()) ∧ Long l ((-A) % 6277101735386680763835789423207666416102355444464034512896) := by
  obtain ⟨h1, h2, h3⟩ := turn_spec a ha.2.1
  rw [ha.1, ha.2.2, show (65536 : Int) ^ 12 = 6277101735386680763835789423207666416102355444464034512896 from by decide] at h3
  obtain ⟨l, k1, k2⟩ := rPlus ⟨h1.trans ha.1, h2, rfl⟩ Long_one
  refine ⟨l, ?_, ?_⟩
  · obtain ⟨a0, a1, a2, a3, a4, a5, a6, a7, a8, a9, a10, a11, rfl, _⟩ := ha.open
    unfold N46 M46
    have : itrs R46_0 ([a0, a1, a2, a3, a4, a5, a6, a7, a8, a9, a10, a11], List.replicate 12 0, 0, ()) = some (turn [a0, a1, a2, a3, a4, a5, a6, a7, a8, a9, a10, a11], List.replicate 12 0, ()) := itrs_of (n := 13) (by kernel_rfl) (by omega)
    simp only [this, Option.bind_some, k1]
  · have hA := ha.in
    rw [show -A = dv (turn a) + 1 + (-1) * 6277101735386680763835789423207666416102355444464034512896 from by omega]
    rw [show (dv (turn a) + 1 + (-1) * 6277101735386680763835789423207666416102355444464034512896) % 6277101735386680763835789423207666416102355444464034512896 = (dv (turn a) + 1) % 6277101735386680763835789423207666416102355444464034512896 from by omega]
    exact k2
/-! ### a number's digits -/
/-- A number of twelve digits for any number. -/
def long (v : Int) : Int := v % 6277101735386680763835789423207666416102355444464034512896
theorem sh_eq {x : Int} {n : Nat} {m : Int} (h : (2 : Int) ^ n = m) (hm : 0 ≤ m) : Int.fdiv x (2 ^ n) = x / m := by rw [h, fdiv_pos hm]
theorem sh_0 (x : Int) : Int.fdiv x (2 ^ 0) = x / 1 := sh_eq (by decide) (by omega)
theorem sh_16 (x : Int) : Int.fdiv x (2 ^ 16) = x / 65536 := sh_eq (by decide) (by omega)
theorem sh_32 (x : Int) : Int.fdiv x (2 ^ 32) = x / 4294967296 := sh_eq (by decide) (by omega)
theorem sh_48 (x : Int) : Int.fdiv x (2 ^ 48) = x / 281474976710656 := sh_eq (by decide) (by omega)
theorem rDigits {h l : Int} (b : WB h l) : ∃ d, N44 ((h, l), ()) = some (d, ()) ∧ Long d (long (wv h l)) := by
  have L1 : itrs R44_0 ((h, l, ()), List.replicate 12 0, List.replicate 12 0, 0, ()) = some ((h, l, ()), List.replicate 12 0, [Int.tmod (Int.fdiv l (2 ^ 0)) 65536, Int.tmod (Int.fdiv l (2 ^ 16)) 65536, Int.tmod (Int.fdiv l (2 ^ 32)) 65536, Int.tmod (Int.fdiv l (2 ^ 48)) 65536, Int.tmod (Int.fdiv (IntKind.wrap .u64 h) (2 ^ 0)) 65536, Int.tmod (Int.fdiv (IntKind.wrap .u64 h) (2 ^ 16)) 65536, Int.tmod (Int.fdiv (IntKind.wrap .u64 h) (2 ^ 32)) 65536, Int.tmod (Int.fdiv (IntKind.wrap .u64 h) (2 ^ 48)) 65536, 0, 0, 0, 0], ()) := itrs_of (n := 5) (by kernel_rfl) (by omega)
  obtain ⟨⟨p1, p2⟩, p3, p4⟩ := b
  have hw : 0 ≤ IntKind.wrap .u64 h ∧ IntKind.wrap .u64 h ≤ 18446744073709551615 := by rw [wu]; omega
  have hh := wu h
  unfold N44 M44
  simp only [L1, Option.bind_some]
  generalize IntKind.wrap .u64 h = u at *
  rw [sh_0, sh_16, sh_32, sh_48, sh_0, sh_16, sh_32, sh_48]
  rw [tmod_pos (by omega), tmod_pos (by omega), tmod_pos (by omega), tmod_pos (by omega), tmod_pos (by omega), tmod_pos (by omega), tmod_pos (by omega), tmod_pos (by omega)]
  by_cases hn : h < 0
  · rw [bif_t (decide_eq_true hn)]
    have L2 : ∀ t d0 d1 d2 d3 d4 d5 d6 d7, itrs R44_2 (t, [d0, d1, d2, d3, d4, d5, d6, d7, 0, 0, 0, 0], 8, ()) = some (t, [d0, d1, d2, d3, d4, d5, d6, d7, 65535, 65535, 65535, 65535], ()) := fun t d0 d1 d2 d3 d4 d5 d6 d7 => itrs_of (n := 5) (by kernel_rfl) (by omega)
    rw [L2]
    refine ⟨_, rfl, rfl, ?_, ?_⟩
    · simp only [List.mem_cons, List.not_mem_nil, or_false, forall_eq_or_imp, forall_eq, D16]
      omega
    · simp only [dv, long, wv]
      omega
  · rw [bif_f (decide_eq_false hn)]
    refine ⟨_, rfl, rfl, ?_, ?_⟩
    · simp only [List.mem_cons, List.not_mem_nil, or_false, forall_eq_or_imp, forall_eq, D16]
      omega
    · simp only [dv, long, wv]
      omega
theorem horner {d0 d1 d2 d3 : Int} (h0 : D16 d0) (h1 : D16 d1) (h2 : D16 d2) (h3 : D16 d3) :
    IntKind.wrap .u64 (IntKind.wrap .u64 (IntKind.wrap .u64 (IntKind.wrap .u64 (IntKind.wrap .u64 (IntKind.wrap .u64 (IntKind.wrap .u64 (IntKind.wrap .u64 (0 * 65536) + d3) * 65536) + d2) * 65536) + d1) * 65536) + d0) = d0 + 65536 * (d1 + 65536 * (d2 + 65536 * d3)) := by
  unfold D16 at *
  rw [wui (n := 0 * 65536) (by omega), wui (n := 0 * 65536 + d3) (by omega), wui (n := (0 * 65536 + d3) * 65536) (by omega), wui (n := (0 * 65536 + d3) * 65536 + d2) (by omega), wui (n := ((0 * 65536 + d3) * 65536 + d2) * 65536) (by omega), wui (n := ((0 * 65536 + d3) * 65536 + d2) * 65536 + d1) (by omega), wui (n := (((0 * 65536 + d3) * 65536 + d2) * 65536 + d1) * 65536) (by omega), wui (by omega)]
  omega
theorem rAbs {h l : Int} (b : WB h l) : N31 ((h, l), ()) = some (wabs (wv h l) / 18446744073709551616, wabs (wv h l) % 18446744073709551616, ()) := by
  have hv := wv_in b
  obtain ⟨d, k1, k2⟩ := rDigits b
  unfold N31 M31
  simp only [k1, Option.bind_some]
  have read : ∀ (d : List Int) (V : Int), Long d V → V ≤ 170141183460469231731687303715884105728 → ((itrs R31_0 (d, 0, 0, 3, ())).bind fun ⟨y4_0, ⟨y4_1, ()⟩⟩ => (some (y4_0, (y4_1, ())))) = some (V / 18446744073709551616, V % 18446744073709551616, ()) := by
    intro d V hd hV
    obtain ⟨d0, d1, d2, d3, d4, d5, d6, d7, d8, d9, d10, d11, rfl, g0, g1, g2, g3, g4, g5, g6, g7, g8, g9, g10, g11, e⟩ := hd.open
    have L : itrs R31_0 ([d0, d1, d2, d3, d4, d5, d6, d7, d8, d9, d10, d11], 0, 0, 3, ()) = some (IntKind.wrap .u64 (IntKind.wrap .u64 (IntKind.wrap .u64 (IntKind.wrap .u64 (IntKind.wrap .u64 (IntKind.wrap .u64 (IntKind.wrap .u64 (IntKind.wrap .u64 (0 * 65536) + d7) * 65536) + d6) * 65536) + d5) * 65536) + d4), IntKind.wrap .u64 (IntKind.wrap .u64 (IntKind.wrap .u64 (IntKind.wrap .u64 (IntKind.wrap .u64 (IntKind.wrap .u64 (IntKind.wrap .u64 (IntKind.wrap .u64 (0 * 65536) + d3) * 65536) + d2) * 65536) + d1) * 65536) + d0), ()) := itrs_of (n := 5) (by kernel_rfl) (by omega)
    rw [L, horner g0 g1 g2 g3, horner g4 g5 g6 g7]
    unfold D16 at *
    simp only [Option.bind_some]
    congr 2
    · omega
    · congr 1; omega
  have below : N45 (d, ()) = some (decide (wv h l < 0), ()) := by
    obtain ⟨d0, d1, d2, d3, d4, d5, d6, d7, d8, d9, d10, d11, rfl, g0, g1, g2, g3, g4, g5, g6, g7, g8, g9, g10, g11, e⟩ := k2.open
    show some (decide (d11 ≥ 32768), ()) = _
    unfold D16 at *
    unfold long at e
    congr 2
    rw [decide_eq_decide]
    omega
  rw [below]
  simp only [Option.bind_some, bif_p]
  by_cases hn : wv h l < 0
  · obtain ⟨d', j1, j2⟩ := rTurned k2
    rw [if_pos hn, j1]
    simp only [Option.bind_some]
    have := read d' _ j2 (by unfold long; omega)
    rw [show wabs (wv h l) = (-(long (wv h l))) % 6277101735386680763835789423207666416102355444464034512896 from by unfold wabs long; rw [if_pos hn]; omega]
    exact this
  · rw [if_neg hn]
    have := read d _ k2 (by unfold long; omega)
    rw [show wabs (wv h l) = long (wv h l) from by unfold wabs long; rw [if_neg hn]; omega]
    exact this
end Go.Proofs.Ytieeaicdpdidpaa.E
namespace Go.Proofs.Ytieeaicdpdidpaa.E
open Go
set_option linter.unusedVariables false
set_option maxRecDepth 100000
theorem long_in (v : Int) : 0 ≤ long v ∧ long v ≤ 6277101735386680763835789423207666416102355444464034512895 := by unfold long; omega
theorem rWide {l : List Int} {v : Int} (hv : -3138550867693340381917894711603833208051177722232017256448 ≤ v ∧ v < 3138550867693340381917894711603833208051177722232017256448) (h : Long l (long v)) : N50 (l, ()) = some (if inR v then ((v / 18446744073709551616, v % 18446744073709551616), true, ()) else ((0, 0), false, ())) := by
  obtain ⟨d0, d1, d2, d3, d4, d5, d6, d7, d8, d9, d10, d11, rfl, g0, g1, g2, g3, g4, g5, g6, g7, g8, g9, g10, g11, e⟩ := h.open
  unfold long at e
  have L2 : ∀ z, itrs R50_2 ([d0, d1, d2, d3, d4, d5, d6, d7, d8, d9, d10, d11], z, 0, 0, 3, ()) = some (z, IntKind.wrap .u64 (IntKind.wrap .u64 (IntKind.wrap .u64 (IntKind.wrap .u64 (IntKind.wrap .u64 (IntKind.wrap .u64 (IntKind.wrap .u64 (IntKind.wrap .u64 (0 * 65536) + d3) * 65536) + d2) * 65536) + d1) * 65536) + d0), IntKind.wrap .u64 (IntKind.wrap .u64 (IntKind.wrap .u64 (IntKind.wrap .u64 (IntKind.wrap .u64 (IntKind.wrap .u64 (IntKind.wrap .u64 (IntKind.wrap .u64 (0 * 65536) + d7) * 65536) + d6) * 65536) + d5) * 65536) + d4), ()) := fun ⟨z0, z1, ()⟩ => itrs_of (n := 5) (by kernel_rfl) (by omega)
  have L0 : ∀ z top, itrs R50_0 ([d0, d1, d2, d3, d4, d5, d6, d7, d8, d9, d10, d11], z, top, 8, ()) = bif d8 != top then some (.inr ((0, 0, ()), false, ())) else bif d9 != top then some (.inr ((0, 0, ()), false, ())) else bif d10 != top then some (.inr ((0, 0, ()), false, ())) else bif d11 != top then some (.inr ((0, 0, ()), false, ())) else some (.inl ([d0, d1, d2, d3, d4, d5, d6, d7, d8, d9, d10, d11], z, ())) := by
    intro ⟨z0, z1, ()⟩ top
    have s8 : R50_0 ([d0, d1, d2, d3, d4, d5, d6, d7, d8, d9, d10, d11], (z0, z1, ()), top, 8, ()) = bif d8 != top then some (.inr (.inr ((0, 0, ()), false, ()))) else some (.inl ([d0, d1, d2, d3, d4, d5, d6, d7, d8, d9, d10, d11], (z0, z1, ()), top, 9, ())) := by kernel_rfl
    have s9 : R50_0 ([d0, d1, d2, d3, d4, d5, d6, d7, d8, d9, d10, d11], (z0, z1, ()), top, 9, ()) = bif d9 != top then some (.inr (.inr ((0, 0, ()), false, ()))) else some (.inl ([d0, d1, d2, d3, d4, d5, d6, d7, d8, d9, d10, d11], (z0, z1, ()), top, 10, ())) := by kernel_rfl
    have s10 : R50_0 ([d0, d1, d2, d3, d4, d5, d6, d7, d8, d9, d10, d11], (z0, z1, ()), top, 10, ()) = bif d10 != top then some (.inr (.inr ((0, 0, ()), false, ()))) else some (.inl ([d0, d1, d2, d3, d4, d5, d6, d7, d8, d9, d10, d11], (z0, z1, ()), top, 11, ())) := by kernel_rfl
    have s11 : R50_0 ([d0, d1, d2, d3, d4, d5, d6, d7, d8, d9, d10, d11], (z0, z1, ()), top, 11, ()) = bif d11 != top then some (.inr (.inr ((0, 0, ()), false, ()))) else some (.inl ([d0, d1, d2, d3, d4, d5, d6, d7, d8, d9, d10, d11], (z0, z1, ()), top, 12, ())) := by kernel_rfl
    have s12 : R50_0 ([d0, d1, d2, d3, d4, d5, d6, d7, d8, d9, d10, d11], (z0, z1, ()), top, 12, ()) = some (.inr (.inl ([d0, d1, d2, d3, d4, d5, d6, d7, d8, d9, d10, d11], (z0, z1, ()), ()))) := by kernel_rfl
    refine itrs_eq (n := 5) ?_ (by cases d8 != top <;> cases d9 != top <;> cases d10 != top <;> cases d11 != top <;> rfl) (by omega)
    rw [itr_bif s8, itr_bif s9, itr_bif s10, itr_bif s11, itr_out s12]
  unfold N50 M50
  simp only []
  rw [show [d0, d1, d2, d3, d4, d5, d6, d7, d8, d9, d10, d11][7]? = some d7 from rfl]
  simp only [Option.bind_some, bif_p]
  unfold D16 at *
  have fin : ∀ top : Int, ((bif d8 != top then some (.inr ((0, 0, ()), false, ())) else bif d9 != top then some (.inr ((0, 0, ()), false, ())) else bif d10 != top then some (.inr ((0, 0, ()), false, ())) else bif d11 != top then some (.inr ((0, 0, ()), false, ())) else some (.inl ([d0, d1, d2, d3, d4, d5, d6, d7, d8, d9, d10, d11], (0, 0, ()), ()))) : Option LB50_0) =
      if d8 = top ∧ d9 = top ∧ d10 = top ∧ d11 = top then some (.inl ([d0, d1, d2, d3, d4, d5, d6, d7, d8, d9, d10, d11], (0, 0, ()), ())) else some (.inr ((0, 0, ()), false, ())) := by
    intro top
    simp only [bif_ne]
    (repeat' split) <;> first | rfl | (exfalso; simp_all; done) | (exfalso; omega)
  have H0 := horner g0 g1 g2 g3
  have H1 := horner g4 g5 g6 g7
  by_cases h7 : d7 ≥ 32768
  · rw [if_pos h7, L0, fin]
    by_cases ht : d8 = 65535 ∧ d9 = 65535 ∧ d10 = 65535 ∧ d11 = 65535
    · rw [if_pos ht]
      simp only [Option.bind_some]
      rw [L2]
      simp only [Option.bind_some]
      rw [H0, H1, if_pos (by unfold inR; omega), ws]
      congr 2
      congr 1 <;> omega
    · rw [if_neg ht, if_neg (by unfold inR; omega)]
      rfl
  · rw [if_neg h7, L0, fin]
    by_cases ht : d8 = 0 ∧ d9 = 0 ∧ d10 = 0 ∧ d11 = 0
    · rw [if_pos ht]
      simp only [Option.bind_some]
      rw [L2]
      simp only [Option.bind_some]
      rw [H0, H1, if_pos (by unfold inR; omega), ws]
      congr 2
      congr 1 <;> omega
    · rw [if_neg ht, if_neg (by unfold inR; omega)]
      rfl
theorem rtold {l : List Int} {v : Int} (hv : -3138550867693340381917894711603833208051177722232017256448 ≤ v ∧ v < 3138550867693340381917894711603833208051177722232017256448) (h : Long l (long v)) : N47 (l, ()) = some (wans v) := by
  unfold N47 M47
  simp only [rWide hv h]
  by_cases hr : inR v
  · rw [if_pos hr, wans_in hr]
    rfl
  · rw [if_neg hr, wans_out hr]
    rfl
theorem Long_eq {l : List Int} {V V' : Int} (h : Long l V) (e : V = V') : Long l V' := e ▸ h
theorem rOf {a : Int} (h : -9223372036854775808 ≤ a ∧ a ≤ 9223372036854775807) : N40 (a, ()) = some ((a / 18446744073709551616, a % 18446744073709551616), ()) := by
  unfold N40 M40
  simp only [bif_p, wu]
  by_cases hn : a < 0
  · rw [if_pos hn, show a / 18446744073709551616 = -1 from by omega]
  · rw [if_neg hn, show a / 18446744073709551616 = 0 from by omega]
theorem rJoin (neg : Bool) {hi lo : Int} (h1 : 0 ≤ hi ∧ hi ≤ 18446744073709551615) (h2 : 0 ≤ lo ∧ lo ≤ 18446744073709551615) :
    N32 (neg, hi, lo, ()) = some (wans (if neg = true then -(hi * 18446744073709551616 + lo) else hi * 18446744073709551616 + lo)) := by
  have L0 : ∀ z, itrs R32_0 (neg, hi, lo, z, List.replicate 12 0, 0, ()) = some (neg, z, [Int.tmod (Int.fdiv lo (2 ^ 0)) 65536, Int.tmod (Int.fdiv lo (2 ^ 16)) 65536, Int.tmod (Int.fdiv lo (2 ^ 32)) 65536, Int.tmod (Int.fdiv lo (2 ^ 48)) 65536, Int.tmod (Int.fdiv hi (2 ^ 0)) 65536, Int.tmod (Int.fdiv hi (2 ^ 16)) 65536, Int.tmod (Int.fdiv hi (2 ^ 32)) 65536, Int.tmod (Int.fdiv hi (2 ^ 48)) 65536, 0, 0, 0, 0], ()) := fun ⟨z0, z1, ()⟩ => itrs_of (n := 5) (by kernel_rfl) (by omega)
  unfold N32 M32
  simp only [L0, Option.bind_some]
  rw [sh_0, sh_16, sh_32, sh_48, sh_0, sh_16, sh_32, sh_48]
  rw [tmod_pos (by omega), tmod_pos (by omega), tmod_pos (by omega), tmod_pos (by omega), tmod_pos (by omega), tmod_pos (by omega), tmod_pos (by omega), tmod_pos (by omega)]
  have hL : Long [lo / 1 % 65536, lo / 65536 % 65536, lo / 4294967296 % 65536, lo / 281474976710656 % 65536, hi / 1 % 65536, hi / 65536 % 65536, hi / 4294967296 % 65536, hi / 281474976710656 % 65536, 0, 0, 0, 0] (long (hi * 18446744073709551616 + lo)) := by
    refine ⟨rfl, ?_, ?_⟩
    · simp only [List.mem_cons, List.not_mem_nil, or_false, forall_eq_or_imp, forall_eq, D16]
      omega
    · simp only [dv, long]
      omega
  cases neg with
  | true =>
    obtain ⟨l, k1, k2⟩ := rTurned hL
    rw [bif_t rfl, k1]
    simp only [Option.bind_some]
    rw [rtold (v := -(hi * 18446744073709551616 + lo)) (by omega) (Long_eq k2 (by unfold long; omega))]
    rfl
  | false =>
    rw [bif_f rfl, rtold (by omega) hL]
    rfl
theorem rAdd {a0 a1 b0 b1 : Int} (ha : WB a0 a1) (hb : WB b0 b1) : N41 ((a0, a1), (b0, b1), ()) = some (wans (wv a0 a1 + wv b0 b1)) := by
  obtain ⟨l, k1, k2⟩ := rDigits ha
  obtain ⟨m, j1, j2⟩ := rDigits hb
  obtain ⟨n, i1, i2⟩ := rPlus k2 j2
  have h1 := wv_in ha
  have h2 := wv_in hb
  unfold N41 M41
  simp only [k1, j1, i1, Option.bind_some]
  rw [rtold (v := wv a0 a1 + wv b0 b1) (by omega) (Long_eq i2 (by unfold long; omega))]
  rfl
theorem rSub {a0 a1 b0 b1 : Int} (ha : WB a0 a1) (hb : WB b0 b1) : N39 ((a0, a1), (b0, b1), ()) = some (wans (wv a0 a1 - wv b0 b1)) := by
  obtain ⟨l, k1, k2⟩ := rDigits ha
  obtain ⟨m, j1, j2⟩ := rDigits hb
  obtain ⟨m', t1, t2⟩ := rTurned j2
  obtain ⟨n, i1, i2⟩ := rPlus k2 t2
  have h1 := wv_in ha
  have h2 := wv_in hb
  unfold N39 M39
  simp only [k1, j1, t1, i1, Option.bind_some]
  rw [rtold (v := wv a0 a1 - wv b0 b1) (by omega) (Long_eq i2 (by unfold long; omega))]
  rfl
end Go.Proofs.Ytieeaicdpdidpaa.E
namespace Go.Proofs.Ytieeaicdpdidpaa.E
open Go
set_option linter.unusedVariables false
set_option maxRecDepth 100000
def qv (A B : Int) : Int := if (!(decide (A < 0) == decide (B < 0))) = true then -(wabs A / wabs B) else wabs A / wabs B
def rv (A B : Int) : Int := if decide (A < 0) = true then -(wabs A % wabs B) else wabs A % wabs B
def qrans (A B : Int) : (Int × Int) × (Int × Int) × Int × Unit :=
  if B = 0 then ((0, 0), (0, 0), 20, ()) else if inR (qv A B) then ((qv A B / 18446744073709551616, qv A B % 18446744073709551616), (rv A B / 18446744073709551616, rv A B % 18446744073709551616), 0, ()) else ((0, 0), (0, 0), 10, ())
theorem rv_in {A B : Int} (hA : wabs A ≤ 170141183460469231731687303715884105728) (hB : wabs B ≤ 170141183460469231731687303715884105728) (h0 : B ≠ 0) : inR (rv A B) := by
  have b0 : 0 < wabs B := by unfold wabs; split <;> omega
  have r0 := Int.emod_nonneg (wabs A) (show wabs B ≠ 0 by omega)
  have r1 := Int.emod_lt_of_pos (wabs A) b0
  unfold inR rv
  split <;> omega
theorem wv_zero {h l : Int} (b : WB h l) : wv h l = 0 ↔ h = 0 ∧ l = 0 := by unfold WB at b; unfold wv; omega
theorem neg_iff {h l : Int} (b : WB h l) : decide (h < 0) = decide (wv h l < 0) := by
  rw [decide_eq_decide]
  unfold WB at b
  unfold wv
  omega
theorem wQuoRem {a0 a1 b0 b1 : Int} (ha : WB a0 a1) (hb : WB b0 b1) : N14 ((a0, a1), (b0, b1), ()) = some (qrans (wv a0 a1) (wv b0 b1)) := by
  unfold N14 M14
  simp only []
  by_cases h0 : wv b0 b1 = 0
  · obtain ⟨e1, e2⟩ := (wv_zero hb).1 h0
    rw [bif_t (by rw [e1, e2]; rfl)]
    unfold qrans
    rw [if_pos h0]
  · rw [bif_f (by rw [Bool.and_eq_false_iff]; have := (not_congr (wv_zero hb)).1 h0; simp; omega)]
    have hA := wabs_in ha
    have hB := wabs_in hb
    have b0' : 0 < wabs (wv b0 b1) := by unfold wabs; split <;> omega
    rw [wAbs ha]
    simp only [Option.bind_some]
    rw [wAbs hb]
    simp only [Option.bind_some]
    rw [wquoRem (by omega) (by omega) (by omega) (by omega) (by omega)]
    simp only [Option.bind_some]
    rw [show wabs (wv a0 a1) / 18446744073709551616 * 18446744073709551616 + wabs (wv a0 a1) % 18446744073709551616 = wabs (wv a0 a1) from by omega, show wabs (wv b0 b1) / 18446744073709551616 * 18446744073709551616 + wabs (wv b0 b1) % 18446744073709551616 = wabs (wv b0 b1) from by omega]
    have r0 := Int.emod_nonneg (wabs (wv a0 a1)) (show wabs (wv b0 b1) ≠ 0 by omega)
    have r1 := Int.emod_lt_of_pos (wabs (wv a0 a1)) b0'
    have q0 : 0 ≤ wabs (wv a0 a1) / wabs (wv b0 b1) := Int.ediv_nonneg hA.1 (by omega)
    have q1 : wabs (wv a0 a1) / wabs (wv b0 b1) ≤ wabs (wv a0 a1) := Int.ediv_le_self _ hA.1
    have hr := rv_in hA.2 hB.2 h0
    rw [wJoin _ (by omega) (by omega), wJoin _ (by omega) (by omega)]
    simp only [Option.bind_some]
    unfold qrans
    rw [if_neg h0]
    have hq : (if (!decide (a0 < 0) == decide (b0 < 0)) = true then -(wabs (wv a0 a1) / wabs (wv b0 b1) / 18446744073709551616 * 18446744073709551616 + wabs (wv a0 a1) / wabs (wv b0 b1) % 18446744073709551616) else wabs (wv a0 a1) / wabs (wv b0 b1) / 18446744073709551616 * 18446744073709551616 + wabs (wv a0 a1) / wabs (wv b0 b1) % 18446744073709551616) = qv (wv a0 a1) (wv b0 b1) := by
      rw [neg_iff ha, neg_iff hb, show wabs (wv a0 a1) / wabs (wv b0 b1) / 18446744073709551616 * 18446744073709551616 + wabs (wv a0 a1) / wabs (wv b0 b1) % 18446744073709551616 = wabs (wv a0 a1) / wabs (wv b0 b1) from by omega]
      rfl
    have hr2 : (if decide (a0 < 0) = true then -(wabs (wv a0 a1) % wabs (wv b0 b1) / 18446744073709551616 * 18446744073709551616 + wabs (wv a0 a1) % wabs (wv b0 b1) % 18446744073709551616) else wabs (wv a0 a1) % wabs (wv b0 b1) / 18446744073709551616 * 18446744073709551616 + wabs (wv a0 a1) % wabs (wv b0 b1) % 18446744073709551616) = rv (wv a0 a1) (wv b0 b1) := by
      rw [neg_iff ha, show wabs (wv a0 a1) % wabs (wv b0 b1) / 18446744073709551616 * 18446744073709551616 + wabs (wv a0 a1) % wabs (wv b0 b1) % 18446744073709551616 = wabs (wv a0 a1) % wabs (wv b0 b1) from by omega]
      rfl
    rw [hq, hr2]
    by_cases hi : inR (qv (wv a0 a1) (wv b0 b1))
    · rw [if_pos hi, wans_in hi, wans_in hr]
      rfl
    · rw [if_neg hi, wans_out hi]
      rfl
/-! ### the reference's quotient, bit by bit -/
theorem rtwice {V bit : Int} (h : 0 ≤ V) (hb : 0 ≤ bit ∧ bit ≤ 1) (h2 : 2 * V + bit < 340282366920938463463374607431768211456) : N34 (V / 18446744073709551616, V % 18446744073709551616, bit, ()) = some ((2 * V + bit) / 18446744073709551616, (2 * V + bit) % 18446744073709551616, ()) := by
  unfold N34 M34
  simp only [wu]
  rw [fdiv_pos (by omega)]
  congr 2
  · omega
  · congr 1; omega
theorem ratLeast {X Y : Int} : N35 (X / 18446744073709551616, X % 18446744073709551616, Y / 18446744073709551616, Y % 18446744073709551616, ()) = some (decide (X ≥ Y), ()) := by
  unfold N35 M35
  simp only [bif_p, bif_eq]
  (repeat' split) <;> (congr 2; first | (rw [decide_eq_decide]; omega) | (symm; rw [decide_eq_true_eq]; omega) | (symm; rw [decide_eq_false_iff_not]; omega))
theorem rless {X Y : Int} (h : 0 ≤ Y ∧ Y ≤ X) (hX : X < 340282366920938463463374607431768211456) : N36 (X / 18446744073709551616, X % 18446744073709551616, Y / 18446744073709551616, Y % 18446744073709551616, ()) = some ((X - Y) / 18446744073709551616, (X - Y) % 18446744073709551616, ()) := by
  unfold N36 M36
  simp only [bif_p, wu]
  split
  · congr 2
    · omega
    · congr 1; omega
  · congr 2
    · omega
    · congr 1; omega
theorem bit_hi {A : Int} {i : Nat} (h : 64 ≤ i) : A / 18446744073709551616 / 2 ^ (i - 64) = A / 2 ^ i := by
  rw [Int.ediv_ediv_of_nonneg (by omega), show (18446744073709551616 : Int) * 2 ^ (i - 64) = 2 ^ i from by
    rw [show (18446744073709551616 : Int) = 2 ^ 64 from by decide, ← Int.pow_add]; congr 1; omega]
theorem bit_lo {A : Int} {m : Nat} (h : m ≤ 63) : A % 18446744073709551616 / 2 ^ m % 2 = A / 2 ^ m % 2 := by
  have hp : (0 : Int) < 2 ^ m := Int.pow_pos (by decide)
  have h1 := Int.mul_ediv_add_emod A 18446744073709551616
  have h2 : (18446744073709551616 : Int) = 2 ^ m * (2 * 2 ^ (63 - m)) := by
    rw [show (18446744073709551616 : Int) = 2 ^ 64 from by decide, show (64 : Nat) = m + (1 + (63 - m)) from by omega, Int.pow_add, Int.pow_add]
    rfl
  generalize A % 18446744073709551616 = al at *
  have h3 : A / 2 ^ m = 2 * (2 ^ (63 - m) * (A / 18446744073709551616)) + al / 2 ^ m := by
    conv => lhs; rw [← h1, h2]
    rw [show (2 : Int) ^ m * (2 * 2 ^ (63 - m)) * (A / (2 ^ m * (2 * 2 ^ (63 - m)))) + al = al + 2 ^ m * (2 * (2 ^ (63 - m) * (A / (2 ^ m * (2 * 2 ^ (63 - m)))))) from by
      rw [Int.mul_assoc (2 ^ m), Int.mul_assoc 2]; omega, Int.add_mul_ediv_left _ _ (by omega), ← h2]
    omega
  omega
theorem rqr_loop {za zb zt zs : Int × Int × Unit} {A B : Int} (hA : 0 ≤ A ∧ A ≤ 170141183460469231731687303715884105728) (hB : 1 ≤ B ∧ B ≤ 170141183460469231731687303715884105728) : ∀ (m : Nat) (Q R : Int), m ≤ 128 → A / 2 ^ m = Q * B + R → 0 ≤ R ∧ R < B → 0 ≤ Q →
    itr R15_0 (m + 1) (za, zb, zt, zs, A / 18446744073709551616, A % 18446744073709551616, B / 18446744073709551616, B % 18446744073709551616, Q / 18446744073709551616, Q % 18446744073709551616, R / 18446744073709551616, R % 18446744073709551616, (m : Int) - 1, ()) =
      some (za, zb, zt, zs, A / B / 18446744073709551616, A / B % 18446744073709551616, A % B / 18446744073709551616, A % B % 18446744073709551616, ()) := by
  obtain ⟨za0, za1, ⟨⟩⟩ := za
  obtain ⟨zb0, zb1, ⟨⟩⟩ := zb
  obtain ⟨zt0, zt1, ⟨⟩⟩ := zt
  obtain ⟨zs0, zs1, ⟨⟩⟩ := zs
  intro m
  induction m with
  | zero =>
    intro Q R hm e hR hQ
    rw [Int.pow_zero, Int.ediv_one] at e
    obtain ⟨e1, e2⟩ := div_mod_of (by omega) e hR
    refine itr_out ?_
    unfold R15_0 Q15_0
    simp only []
    rw [bif_f (decide_eq_false (by omega)), e1, e2]
  | succ m ih =>
    intro Q R hm e hR hQ
    have hp : (0 : Int) < 2 ^ m := Int.pow_pos (by decide)
    have hstep := two_step (a := A) (m := m)
    have hbit : 0 ≤ A / 2 ^ m % 2 ∧ A / 2 ^ m % 2 ≤ 1 := by omega
    have eR : A / 2 ^ m = 2 * Q * B + (2 * R + A / 2 ^ m % 2) := by rw [Int.mul_assoc]; omega
    have hAm : A / 2 ^ m ≤ A := Int.ediv_le_self _ hA.1
    have hQB : 2 * Q ≤ 2 * Q * B := by
      have := Int.mul_le_mul_of_nonneg_left hB.1 (show 0 ≤ 2 * Q by omega)
      rwa [Int.mul_one] at this
    generalize hbe : A / 2 ^ m % 2 = bit at *
    have hR' : 0 ≤ 2 * R + bit ∧ 2 * R + bit < 2 * B := by omega
    have hround : R15_0 ((za0, za1, ()), (zb0, zb1, ()), (zt0, zt1, ()), (zs0, zs1, ()), A / 18446744073709551616, A % 18446744073709551616, B / 18446744073709551616, B % 18446744073709551616, Q / 18446744073709551616, Q % 18446744073709551616, R / 18446744073709551616, R % 18446744073709551616, (m : Int), ()) =
        if B ≤ 2 * R + bit then some (.inl ((za0, za1, ()), (zb0, zb1, ()), (zt0, zt1, ()), (zs0, zs1, ()), A / 18446744073709551616, A % 18446744073709551616, B / 18446744073709551616, B % 18446744073709551616, (2 * Q + 1) / 18446744073709551616, (2 * Q + 1) % 18446744073709551616, (2 * R + bit - B) / 18446744073709551616, (2 * R + bit - B) % 18446744073709551616, (m : Int) - 1, ()))
        else some (.inl ((za0, za1, ()), (zb0, zb1, ()), (zt0, zt1, ()), (zs0, zs1, ()), A / 18446744073709551616, A % 18446744073709551616, B / 18446744073709551616, B % 18446744073709551616, (2 * Q + 0) / 18446744073709551616, (2 * Q + 0) % 18446744073709551616, (2 * R + bit) / 18446744073709551616, (2 * R + bit) % 18446744073709551616, (m : Int) - 1, ())) := by
      unfold R15_0 Q15_0
      simp only []
      have em : (m : Int).tmod 64 = ((m % 64 : Nat) : Int) := by rw [tmod_pos (by omega)]; omega
      rw [bif_t (decide_eq_true (by omega)), em, wui (n := ((m % 64 : Nat) : Int)) (by omega), bif_t (decide_eq_true (show (0 : Int) ≤ ((m % 64 : Nat) : Int) by omega)), pow_min (by omega)]
      simp only [Option.bind_some]
      rw [wsi (n := (m : Int) - 1) (by omega)]
      have tail : ∀ b : Int, b = bit → (N34 (R / 18446744073709551616, R % 18446744073709551616, b, ())) = some ((2 * R + bit) / 18446744073709551616, (2 * R + bit) % 18446744073709551616, ()) := by
        intro b hb
        subst hb
        exact rtwice hR.1 hbit (by omega)
      by_cases h64 : (m : Int) ≥ 64
      · rw [bif_t (decide_eq_true h64), tail _ (by rw [fdiv_pos (Int.le_of_lt (Int.pow_pos (by decide))), tmod_pos (by exact Int.ediv_nonneg (Int.ediv_nonneg hA.1 (by omega)) (Int.le_of_lt (Int.pow_pos (by decide)))), show m % 64 = m - 64 from by omega, bit_hi (by omega), hbe])]
        simp only [Option.bind_some]
        rw [ratLeast]
        simp only [Option.bind_some]
        by_cases hge : 2 * R + bit ≥ B
        · rw [bif_t (decide_eq_true hge), if_pos hge, rless (by omega) (by omega)]
          simp only [Option.bind_some]
          rw [rtwice hQ (by omega) (by omega)]
          rfl
        · rw [bif_f (decide_eq_false hge), if_neg hge, rtwice hQ (by omega) (by omega)]
          rfl
      · rw [bif_f (decide_eq_false h64), tail _ (by rw [fdiv_pos (Int.le_of_lt (Int.pow_pos (by decide))), tmod_pos (by exact Int.ediv_nonneg (by omega) (Int.le_of_lt (Int.pow_pos (by decide)))), show m % 64 = m from by omega, bit_lo (by omega), hbe])]
        simp only [Option.bind_some]
        rw [ratLeast]
        simp only [Option.bind_some]
        by_cases hge : 2 * R + bit ≥ B
        · rw [bif_t (decide_eq_true hge), if_pos hge, rless (by omega) (by omega)]
          simp only [Option.bind_some]
          rw [rtwice hQ (by omega) (by omega)]
          rfl
        · rw [bif_f (decide_eq_false hge), if_neg hge, rtwice hQ (by omega) (by omega)]
          rfl
    rw [itr_succ, show (((m + 1 : Nat) : Int) - 1) = (m : Int) from by omega, hround]
    by_cases hle : B ≤ 2 * R + bit
    · rw [if_pos hle]
      exact ih (2 * Q + 1) (2 * R + bit - B) (by omega) (by rw [Int.add_mul, Int.one_mul]; omega) (by omega) (by omega)
    · rw [if_neg hle, Int.add_zero]
      exact ih (2 * Q) (2 * R + bit) (by omega) eR (by omega) (by omega)
theorem rQuoRem {a0 a1 b0 b1 : Int} (ha : WB a0 a1) (hb : WB b0 b1) : N15 ((a0, a1), (b0, b1), ()) = some (qrans (wv a0 a1) (wv b0 b1)) := by
  unfold N15 M15
  simp only []
  by_cases h0 : wv b0 b1 = 0
  · obtain ⟨e1, e2⟩ := (wv_zero hb).1 h0
    rw [bif_t (by rw [e1]; rfl), bif_t (by rw [e2]; rfl)]
    unfold qrans
    rw [if_pos h0]
  · have hA := wabs_in ha
    have hB := wabs_in hb
    have b0' : 0 < wabs (wv b0 b1) := by unfold wabs; split <;> omega
    rw [rAbs ha]
    simp only [Option.bind_some]
    rw [rAbs hb]
    simp only [Option.bind_some]
    have L := itrs_of (rqr_loop (za := (a0, a1, ())) (zb := (b0, b1, ())) (zt := (0, 0, ())) (zs := (0, 0, ())) hA ⟨by omega, hB.2⟩ 128 0 0 (by omega) (by
      rw [show (2 : Int) ^ 128 = 340282366920938463463374607431768211456 from by decide]; omega) (by omega) (by omega)) (by omega)
    rw [show (0 : Int) / 18446744073709551616 = 0 from rfl, show (0 : Int) % 18446744073709551616 = 0 from rfl, show ((128 : Nat) : Int) - 1 = 127 from rfl] at L
    rw [L]
    simp only [Option.bind_some]
    have r0 := Int.emod_nonneg (wabs (wv a0 a1)) (show wabs (wv b0 b1) ≠ 0 by omega)
    have r1 := Int.emod_lt_of_pos (wabs (wv a0 a1)) b0'
    have q0 : 0 ≤ wabs (wv a0 a1) / wabs (wv b0 b1) := Int.ediv_nonneg hA.1 (by omega)
    have q1 : wabs (wv a0 a1) / wabs (wv b0 b1) ≤ wabs (wv a0 a1) := Int.ediv_le_self _ hA.1
    have hr := rv_in hA.2 hB.2 h0
    rw [rJoin _ (by omega) (by omega), rJoin _ (by omega) (by omega)]
    simp only [Option.bind_some]
    have hq : (if (!decide (a0 < 0) == decide (b0 < 0)) = true then -(wabs (wv a0 a1) / wabs (wv b0 b1) / 18446744073709551616 * 18446744073709551616 + wabs (wv a0 a1) / wabs (wv b0 b1) % 18446744073709551616) else wabs (wv a0 a1) / wabs (wv b0 b1) / 18446744073709551616 * 18446744073709551616 + wabs (wv a0 a1) / wabs (wv b0 b1) % 18446744073709551616) = qv (wv a0 a1) (wv b0 b1) := by
      rw [neg_iff ha, neg_iff hb, show wabs (wv a0 a1) / wabs (wv b0 b1) / 18446744073709551616 * 18446744073709551616 + wabs (wv a0 a1) / wabs (wv b0 b1) % 18446744073709551616 = wabs (wv a0 a1) / wabs (wv b0 b1) from by omega]
      rfl
    have hr2 : (if decide (a0 < 0) = true then -(wabs (wv a0 a1) % wabs (wv b0 b1) / 18446744073709551616 * 18446744073709551616 + wabs (wv a0 a1) % wabs (wv b0 b1) % 18446744073709551616) else wabs (wv a0 a1) % wabs (wv b0 b1) / 18446744073709551616 * 18446744073709551616 + wabs (wv a0 a1) % wabs (wv b0 b1) % 18446744073709551616) = rv (wv a0 a1) (wv b0 b1) := by
      rw [neg_iff ha, show wabs (wv a0 a1) % wabs (wv b0 b1) / 18446744073709551616 * 18446744073709551616 + wabs (wv a0 a1) % wabs (wv b0 b1) % 18446744073709551616 = wabs (wv a0 a1) % wabs (wv b0 b1) from by omega]
      rfl
    rw [hq, hr2]
    have hn := (not_congr (wv_zero hb)).1 h0
    unfold qrans
    rw [if_neg h0]
    by_cases hi : inR (qv (wv a0 a1) (wv b0 b1))
    · rw [if_pos hi, wans_in hi, wans_in hr]
      by_cases hb0 : b0 = 0
      · rw [bif_t (show (b0 == 0) = true from by simpa using hb0), bif_f (show (b1 == 0) = false from by simp; omega)]
        rfl
      · rw [bif_f (show (b0 == 0) = false from by simpa using hb0)]
        rfl
    · rw [if_neg hi, wans_out hi]
      by_cases hb0 : b0 = 0
      · rw [bif_t (show (b0 == 0) = true from by simpa using hb0), bif_f (show (b1 == 0) = false from by simp; omega)]
        rfl
      · rw [bif_f (show (b0 == 0) = false from by simpa using hb0)]
        rfl
end Go.Proofs.Ytieeaicdpdidpaa.E
namespace Go.Proofs.Ytieeaicdpdidpaa.E
open Go
set_option linter.unusedVariables false
set_option maxRecDepth 100000
/-- Of a quotient that isn't whole: is the next one further from 0 taken? -/
def far (A B mode : Int) : Bool :=
  bif mode == 0 then (!(decide (A < 0) == decide (B < 0))) else bif mode == 1 then (!(!(decide (A < 0) == decide (B < 0)))) else bif mode == 2 then false
  else bif decide (wabs A % wabs B = wabs B - wabs A % wabs B) then (bif mode == 3 then true else decide (qv A B % 18446744073709551616 % 2 = 1)) else decide (wabs A % wabs B ≥ wabs B - wabs A % wabs B)
def divans (A B mode : Int) : (Int × Int) × Int × Unit :=
  if mode < 0 then ((0, 0), 1, ()) else if mode > 4 then ((0, 0), 1, ()) else if B = 0 then ((0, 0), 20, ()) else if inR (qv A B) then
    (if rv A B = 0 then ((qv A B / 18446744073709551616, qv A B % 18446744073709551616), 0, ()) else bif far A B mode then wans (if (!(decide (A < 0) == decide (B < 0))) = true then qv A B - 1 else qv A B + 1) else ((qv A B / 18446744073709551616, qv A B % 18446744073709551616), 0, ()))
  else ((0, 0), 10, ())
theorem wabs_rv {A B : Int} (h0 : B ≠ 0) : wabs (rv A B) = wabs A % wabs B := by
  have b0 : 0 < wabs B := by unfold wabs; split <;> omega
  have r0 := Int.emod_nonneg (wabs A) (show wabs B ≠ 0 by omega)
  unfold rv
  generalize wabs A % wabs B = m at *
  unfold wabs
  split <;> split <;> omega
theorem sign_rv {A B : Int} (h0 : B ≠ 0) (hr : rv A B ≠ 0) : decide (rv A B < 0) = decide (A < 0) := by
  have b0 : 0 < wabs B := by unfold wabs; split <;> omega
  have r0 := Int.emod_nonneg (wabs A) (show wabs B ≠ 0 by omega)
  rw [decide_eq_decide]
  unfold rv at *
  split at hr <;> rename_i h <;> simp only [decide_eq_true_eq] at h
  · rw [if_pos (by simpa using h)]; omega
  · rw [if_neg (by simpa using h)]; omega
section
variable {A B b0 b1 mode : Int} (hb : WB b0 b1) (hB : wv b0 b1 = B) (hA : wabs A ≤ 170141183460469231731687303715884105728) (h0 : B ≠ 0) (hr : rv A B ≠ 0)
include hb hB hA h0 hr
theorem wAway : N37 ((qv A B / 18446744073709551616, qv A B % 18446744073709551616), (rv A B / 18446744073709551616, rv A B % 18446744073709551616), (b0, b1), mode, ()) = some (far A B mode, ()) := by
  have hB2 := wabs_in hb
  rw [hB] at hB2
  have hri := rv_in hA hB2.2 h0
  have wr := WB_in hri
  have hb0 : 0 < wabs B := by unfold wabs; split <;> omega
  have r0 := Int.emod_nonneg (wabs A) (show wabs B ≠ 0 by omega)
  have r1 := Int.emod_lt_of_pos (wabs A) hb0
  have e1 : decide (rv A B / 18446744073709551616 < 0) = decide (A < 0) := by rw [neg_iff wr, wv_of, sign_rv h0 hr]
  have e2 : decide (b0 < 0) = decide (B < 0) := by rw [neg_iff hb, hB]
  unfold N37 M37 far
  simp only []
  rw [e1, e2]
  cases m0 : mode == 0 with
  | true => rfl
  | false =>
  cases m1 : mode == 1 with
  | true => rfl
  | false =>
  cases m2 : mode == 2 with
  | true => rfl
  | false =>
  simp only [cond_false]
  rw [wAbs wr, wv_of, wabs_rv h0]
  simp only [Option.bind_some]
  rw [wAbs hb, hB]
  simp only [Option.bind_some]
  generalize wabs A % wabs B = r at *
  generalize wabs B = b at *
  rw [sub64_f (by omega) (by omega) (by omega)]
  simp only [Option.bind_some]
  rw [sub64_f (by omega) (by omega) (by omega)]
  simp only [Option.bind_some]
  have hq : 0 ≤ qv A B % 18446744073709551616 ∧ qv A B % 18446744073709551616 ≤ 18446744073709551615 := by omega
  rw [and_bit hq]
  have t0 : (b % 18446744073709551616 - r % 18446744073709551616 - 0) % 18446744073709551616 = (b - r) % 18446744073709551616 := by omega
  have t1 : (b / 18446744073709551616 - r / 18446744073709551616 - -((b % 18446744073709551616 - r % 18446744073709551616 - 0) / 18446744073709551616)) % 18446744073709551616 = (b - r) / 18446744073709551616 := by omega
  rw [t0, t1]
  have hqd : (qv A B % 18446744073709551616 % 2 == 1) = decide (qv A B % 18446744073709551616 % 2 = 1) := rfl
  rw [hqd]
  generalize decide (qv A B % 18446744073709551616 % 2 = 1) = od
  simp only [bif_p, bif_eq]
  have hw : (if mode = 3 then (some (true, ()) : Option B37) else some (od, ())) = some (if mode = 3 then true else od, ()) := by split <;> rfl
  simp only [hw]
  by_cases k1 : r / 18446744073709551616 > (b - r) / 18446744073709551616
  · rw [if_pos k1, if_neg (by omega), decide_eq_true (by omega)]
  · rw [if_neg k1]
    by_cases k2 : r / 18446744073709551616 = (b - r) / 18446744073709551616
    · rw [if_pos k2]
      by_cases k3 : r % 18446744073709551616 > (b - r) % 18446744073709551616
      · rw [if_pos k3, if_neg (by omega), decide_eq_true (by omega)]
      · rw [if_neg k3, if_pos k2]
        by_cases k4 : r % 18446744073709551616 = (b - r) % 18446744073709551616
        · rw [if_pos k4, if_pos (show r = b - r by omega)]
        · rw [if_neg k4, if_neg (by omega), decide_eq_false (by omega)]
    · rw [if_neg k2, if_neg k2, if_neg (by omega), decide_eq_false (by omega)]
theorem rNearer (hm : mode = 3 ∨ mode = 4) : N38 ((qv A B / 18446744073709551616, qv A B % 18446744073709551616), (rv A B / 18446744073709551616, rv A B % 18446744073709551616), (b0, b1), mode, ()) = some (far A B mode, ()) := by
  have hB2 := wabs_in hb
  rw [hB] at hB2
  have hri := rv_in hA hB2.2 h0
  have wr := WB_in hri
  have hb0 : 0 < wabs B := by unfold wabs; split <;> omega
  have r0 := Int.emod_nonneg (wabs A) (show wabs B ≠ 0 by omega)
  have r1 := Int.emod_lt_of_pos (wabs A) hb0
  unfold N38 M38 far
  simp only []
  rw [bif_f (show (mode == 0) = false from by simp; omega), bif_f (show (mode == 1) = false from by simp; omega), bif_f (show (mode == 2) = false from by simp; omega)]
  rw [rAbs wr, wv_of, wabs_rv h0]
  simp only [Option.bind_some]
  rw [rAbs hb, hB]
  simp only [Option.bind_some]
  have hq : 0 ≤ qv A B % 18446744073709551616 := by omega
  rw [tmod_pos hq]
  generalize wabs A % wabs B = r at *
  generalize wabs B = b at *
  rw [rless (by omega) (by omega)]
  simp only [Option.bind_some]
  rw [ratLeast]
  simp only [Option.bind_some]
  have hqd : (qv A B % 18446744073709551616 % 2 == 1) = decide (qv A B % 18446744073709551616 % 2 = 1) := rfl
  rw [hqd]
  generalize decide (qv A B % 18446744073709551616 % 2 = 1) = od
  simp only [bif_p, bif_eq]
  have hw : (if mode = 3 then (some (true, ()) : Option B38) else some (od, ())) = some (if mode = 3 then true else od, ()) := by split <;> rfl
  simp only [hw]
  by_cases k2 : r / 18446744073709551616 = (b - r) / 18446744073709551616
  · rw [if_pos k2]
    by_cases k4 : r % 18446744073709551616 = (b - r) % 18446744073709551616
    · rw [if_pos k4, if_pos (show r = b - r by omega)]
    · rw [if_neg k4, if_neg (show ¬ r = b - r by omega)]
  · rw [if_neg k2, if_neg (by omega)]
end
theorem wDiv {a0 a1 b0 b1 mode : Int} (ha : WB a0 a1) (hb : WB b0 b1) : N16 ((a0, a1), (b0, b1), mode, ()) = some (divans (wv a0 a1) (wv b0 b1) mode) := by
  unfold N16 M16 divans
  simp only []
  by_cases m0 : mode < 0
  · rw [bif_t (decide_eq_true m0), if_pos m0]
  rw [bif_f (decide_eq_false m0), if_neg m0]
  by_cases m4 : mode > 4
  · rw [bif_t (decide_eq_true m4), if_pos m4]
  rw [bif_f (decide_eq_false m4), if_neg m4, wQuoRem ha hb]
  simp only [Option.bind_some]
  unfold qrans
  by_cases h0 : wv b0 b1 = 0
  · rw [if_pos h0, if_pos h0]
    rfl
  rw [if_neg h0, if_neg h0]
  by_cases hq : inR (qv (wv a0 a1) (wv b0 b1))
  · rw [if_pos hq, if_pos hq]
    simp only [bne_self_eq_false, cond_false]
    have hri := rv_in (wabs_in ha).2 (wabs_in hb).2 h0
    by_cases hr : rv (wv a0 a1) (wv b0 b1) = 0
    · rw [if_pos hr, hr]
      rfl
    · rw [if_neg hr, bif_f (by rw [Bool.and_eq_false_iff]; simp; omega), wAway hb rfl (wabs_in ha).2 h0 hr]
      simp only [Option.bind_some, bif_not]
      cases hf : far (wv a0 a1) (wv b0 b1) mode with
      | false => rfl
      | true =>
        simp only [cond_true]
        rw [neg_iff ha, neg_iff hb, wOf (by omega), show (1 : Int) / 18446744073709551616 = 0 from rfl, show (1 : Int) % 18446744073709551616 = 1 from rfl]
        simp only [Option.bind_some]
        rw [wSub (WB_in hq) (show WB 0 1 from by unfold WB; omega), wAdd (WB_in hq) (show WB 0 1 from by unfold WB; omega), wv_of, show wv 0 1 = 1 from rfl]
        cases (decide (wv a0 a1 < 0) == decide (wv b0 b1 < 0)) <;> rfl
  · rw [if_neg hq, if_neg hq]
    rfl
theorem rDiv {a0 a1 b0 b1 mode : Int} (ha : WB a0 a1) (hb : WB b0 b1) : N17 ((a0, a1), (b0, b1), mode, ()) = some (divans (wv a0 a1) (wv b0 b1) mode) := by
  unfold N17 M17 divans
  simp only []
  by_cases m0 : mode < 0
  · rw [bif_t (decide_eq_true m0), if_pos m0]
  rw [bif_f (decide_eq_false m0), if_neg m0]
  by_cases m4 : mode > 4
  · rw [bif_t (decide_eq_true m4), if_pos m4]
  rw [bif_f (decide_eq_false m4), if_neg m4, rQuoRem ha hb]
  simp only [Option.bind_some]
  unfold qrans
  by_cases h0 : wv b0 b1 = 0
  · rw [if_pos h0, if_pos h0]
    rfl
  rw [if_neg h0, if_neg h0]
  by_cases hq : inR (qv (wv a0 a1) (wv b0 b1))
  · rw [if_pos hq, if_pos hq]
    simp only [bne_self_eq_false, cond_false]
    have hri := rv_in (wabs_in ha).2 (wabs_in hb).2 h0
    have wq := WB_in hq
    have S := rSub wq (show WB 0 1 from by unfold WB; omega)
    have D := rAdd wq (show WB 0 1 from by unfold WB; omega)
    have O : N40 (1, ()) = some ((0, 1), ()) := rOf (a := 1) (by omega)
    rw [wv_of, show wv 0 1 = 1 from rfl] at S D
    by_cases hr : rv (wv a0 a1) (wv b0 b1) = 0
    · rw [if_pos hr, hr]
      rfl
    · rw [if_neg hr]
      have nr := fun m hm => rNearer (mode := m) hb rfl (wabs_in ha).2 h0 hr hm
      rw [neg_iff ha, neg_iff hb]
      have hz : ¬ (rv (wv a0 a1) (wv b0 b1) / 18446744073709551616 = 0 ∧ rv (wv a0 a1) (wv b0 b1) % 18446744073709551616 = 0) := by omega
      generalize hx : (rv (wv a0 a1) (wv b0 b1) / 18446744073709551616) = x at *
      generalize hy : (rv (wv a0 a1) (wv b0 b1) % 18446744073709551616) = y at *
      have hm : mode = 0 ∨ mode = 1 ∨ mode = 2 ∨ mode = 3 ∨ mode = 4 := by omega
      by_cases k1 : x = 0
      · rw [bif_t (show (x == 0) = true from by simpa using k1), bif_f (show (y == 0) = false from by simp; omega)]
        rcases hm with rfl | rfl | rfl | rfl | rfl
        · simp only [O, S, D, Option.bind_some, far, beq_self_eq_true, cond_true, bif_not]
          cases (decide (wv a0 a1 < 0) == decide (wv b0 b1 < 0)) <;> rfl
        · simp only [O, S, D, Option.bind_some, far, beq_self_eq_true, cond_true, bif_not, Int.reduceBEq, cond_false]
          cases (decide (wv a0 a1 < 0) == decide (wv b0 b1 < 0)) <;> rfl
        · rfl
        · simp only [O, S, D, nr 3 (.inl rfl), Option.bind_some, beq_self_eq_true, cond_true, bif_not, Int.reduceBEq, cond_false]
          cases far (wv a0 a1) (wv b0 b1) 3 <;> cases (decide (wv a0 a1 < 0) == decide (wv b0 b1 < 0)) <;> rfl
        · simp only [O, S, D, nr 4 (.inr rfl), Option.bind_some, beq_self_eq_true, cond_true, bif_not, Int.reduceBEq, cond_false]
          cases far (wv a0 a1) (wv b0 b1) 4 <;> cases (decide (wv a0 a1 < 0) == decide (wv b0 b1 < 0)) <;> rfl
      · rw [bif_f (show (x == 0) = false from by simpa using k1)]
        rcases hm with rfl | rfl | rfl | rfl | rfl
        · simp only [O, S, D, Option.bind_some, far, beq_self_eq_true, cond_true, bif_not]
          cases (decide (wv a0 a1 < 0) == decide (wv b0 b1 < 0)) <;> rfl
        · simp only [O, S, D, Option.bind_some, far, beq_self_eq_true, cond_true, bif_not, Int.reduceBEq, cond_false]
          cases (decide (wv a0 a1 < 0) == decide (wv b0 b1 < 0)) <;> rfl
        · rfl
        · simp only [O, S, D, nr 3 (.inl rfl), Option.bind_some, beq_self_eq_true, cond_true, bif_not, Int.reduceBEq, cond_false]
          cases far (wv a0 a1) (wv b0 b1) 3 <;> cases (decide (wv a0 a1 < 0) == decide (wv b0 b1 < 0)) <;> rfl
        · simp only [O, S, D, nr 4 (.inr rfl), Option.bind_some, beq_self_eq_true, cond_true, bif_not, Int.reduceBEq, cond_false]
          cases far (wv a0 a1) (wv b0 b1) 4 <;> cases (decide (wv a0 a1 < 0) == decide (wv b0 b1 < 0)) <;> rfl
  · rw [if_neg hq, if_neg hq]
    rfl
end Go.Proofs.Ytieeaicdpdidpaa.E
namespace Go.Proofs.Ytieeaicdpdidpaa.E
open Go
theorem awake_yes : N11 () = some (true, ()) := by kernel_rfl
end Go.Proofs.Ytieeaicdpdidpaa.E
namespace Go.Proofs.Ytieeaicdpdidpaa.E
open Go
set_option linter.unusedVariables false
set_option maxRecDepth 100000
theorem wSign {h l : Int} (b : WB h l) : N22 ((h, l), ()) = some (if wv h l < 0 then -1 else if wv h l = 0 then 0 else 1, ()) := by
  unfold N22 M22
  simp only [bif_p]
  have h1 := wv_zero b
  unfold WB at b
  by_cases hn : h < 0
  · rw [if_pos hn, if_pos (by unfold wv; omega)]
  · rw [if_neg hn, if_neg (by unfold wv; omega)]
    by_cases hz : wv h l = 0
    · obtain ⟨e1, e2⟩ := h1.1 hz
      rw [if_pos hz, bif_t (by rw [e1, e2]; rfl)]
    · rw [if_neg hz, bif_f (by rw [Bool.and_eq_false_iff]; have := (not_congr h1).1 hz; simp; omega)]
theorem wNearer {a0 a1 b0 b1 : Int} (ha : WB a0 a1) (hb : WB b0 b1) : N23 ((a0, a1), (b0, b1), ()) = some (decide (wabs (wv a0 a1) < wabs (wv b0 b1)), ()) := by
  unfold N23 M23
  simp only []
  rw [wAbs ha]
  simp only [Option.bind_some]
  rw [wAbs hb]
  simp only [Option.bind_some, bif_p, bif_eq]
  (repeat' split) <;> (congr 2; first | (rw [decide_eq_decide]; omega) | (symm; rw [decide_eq_true_eq]; omega) | (symm; rw [decide_eq_false_iff_not]; omega))
theorem pair_ne {v w : Int} (h : v ≠ w) : (v / 18446744073709551616 == w / 18446744073709551616 && v % 18446744073709551616 == w % 18446744073709551616) = false := by
  rw [Bool.and_eq_false_iff]
  simp
  omega
theorem modes_final {a0 a1 b0 b1 q0 q1 f0 f1 r0 r1 h0 h1 z0 z1 z2 s t : Int} (bl c3 c4 nr nh same : Bool)
    (e0 : N16 ((a0, a1), (b0, b1), 0, ()) = some ((bif bl then f0 else q0, bif bl then f1 else q1), 0, ()))
    (e1 : N16 ((a0, a1), (b0, b1), 1, ()) = some ((bif bl then q0 else f0, bif bl then q1 else f1), 0, ()))
    (e2 : N16 ((a0, a1), (b0, b1), 2, ()) = some ((q0, q1), 0, ()))
    (e3 : N16 ((a0, a1), (b0, b1), 3, ()) = some ((bif c3 then f0 else q0, bif c3 then f1 else q1), 0, ()))
    (e4 : N16 ((a0, a1), (b0, b1), 4, ()) = some ((bif c4 then f0 else q0, bif c4 then f1 else q1), 0, ()))
    (d : N24 ((bif bl then q0 else f0, bif bl then q1 else f1), (bif bl then f0 else q0, bif bl then f1 else q1), ()) = some ((0, 1), 0, ()))
    (G : N14 ((a0, a1), (b0, b1), ()) = some ((q0, q1), (r0, r1), 0, ()))
    (O0 : N20 (0, ()) = some ((0, 0), ())) (O1 : N20 (1, ()) = some ((0, 1), ()))
    (sr : N22 ((r0, r1), ()) = some (s, ())) (hs : (s == 0) = false) (sb : N22 ((b0, b1), ()) = some (t, ()))
    (hz : N24 ((b0, b1), (r0, r1), ()) = some ((z0, z1), z2, ())) (hsame : (decide (t < 0) == decide (s < 0)) = same)
    (hS : same = true → z0 = h0 ∧ z1 = h1 ∧ z2 = 0) (hD : same = false → N21 ((b0, b1), (r0, r1), ()) = some ((h0, h1), 0, ()))
    (NR : N23 ((r0, r1), (h0, h1), ()) = some (nr, ())) (NH : N23 ((h0, h1), (r0, r1), ()) = some (nh, ()))
    (n1 : (q0 == f0 && q1 == f1) = false) (n2 : (f0 == q0 && f1 == q1) = false)
    (ho : (nr || nh) = true → c3 = nh ∧ c4 = nh) (hp : (nr || nh) = false → c3 = true ∧ (Int.tmod (bif c4 then f1 else q1) 2 == 0) = true) :
    N9 ((a0, a1), (b0, b1), ()) = some (true, ()) := by
  unfold N9 M9
  simp only []
  rw [awake_yes]
  simp only [e0, e1, e2, e3, e4, d, G, O0, O1, sr, hs, sb, hz, hsame, Option.bind_some, Bool.not_true, cond_false, bne_self_eq_false, beq_self_eq_true, Bool.and_true, Int.reduceBEq, Bool.and_false, Bool.not_false, cond_true]
  clear e0 e1 e2 e3 e4 d G O0 O1 sr hs sb hz hsame
  cases same with
  | true =>
    obtain ⟨rfl, rfl, rfl⟩ := hS rfl
    clear hS hD
    simp only [NR, NH, Option.bind_some, cond_false, Bool.not_true, bne_self_eq_false]
    clear NR NH
    cases hn : (nr || nh) with
    | true =>
      obtain ⟨rfl, rfl⟩ := ho hn
      cases bl <;> cases c4 <;> cases nr <;> simp [n1, n2] at hn ⊢
    | false =>
      obtain ⟨rfl, hp⟩ := hp hn
      cases nr <;> cases nh <;> simp at hn
      cases bl <;> cases c4 <;> simp only [cond_true, cond_false] at hp <;> simp [n1, n2] <;> simpa using hp
  | false =>
    have hD := hD rfl
    clear hS
    simp only [hD, NR, NH, Option.bind_some, cond_true, cond_false, Bool.not_false, bne_self_eq_false]
    clear NR NH hD
    cases hn : (nr || nh) with
    | true =>
      obtain ⟨rfl, rfl⟩ := ho hn
      cases bl <;> cases c4 <;> cases nr <;> simp [n1, n2] at hn ⊢
    | false =>
      obtain ⟨rfl, hp⟩ := hp hn
      cases nr <;> cases nh <;> simp at hn
      cases bl <;> cases c4 <;> simp only [cond_true, cond_false] at hp <;> simp [n1, n2] <;> simpa using hp
theorem sg (p : Prop) [Decidable p] : decide ((if p then (-1 : Int) else 1) < 0) = decide p := by by_cases h : p <;> simp [h]
theorem mul_small {B q A : Int} (hB : 2 ≤ B) (hq : 0 ≤ q) (h : q * B ≤ A) : 2 * q ≤ A := by
  have := Int.mul_le_mul_of_nonneg_left hB hq
  omega
theorem modes_zero {a0 a1 b0 b1 : Int} (ha : WB a0 a1) (hb : WB b0 b1) (h0 : wv b0 b1 = 0) : N9 ((a0, a1), (b0, b1), ()) = some (true, ()) := by
  have e0 := wDiv (mode := 0) ha hb
  unfold divans at e0
  rw [if_neg (by omega), if_neg (by omega), if_pos h0] at e0
  have Sb := wSign hb
  rw [if_neg (by omega), if_pos h0] at Sb
  unfold N9 M9
  simp only []
  rw [awake_yes]
  simp only [Option.bind_some, Bool.not_true, cond_false]
  rw [e0]
  simp only [Option.bind_some, Sb]
  rfl
theorem modes_over {a0 a1 b0 b1 : Int} (ha : WB a0 a1) (hb : WB b0 b1) (h0 : ¬ wv b0 b1 = 0) (hq : ¬ inR (qv (wv a0 a1) (wv b0 b1))) : N9 ((a0, a1), (b0, b1), ()) = some (true, ()) := by
  have hA := wabs_in ha
  have hB := wabs_in hb
  have e0 := wDiv (mode := 0) ha hb
  unfold divans at e0
  rw [if_neg (by omega), if_neg (by omega), if_neg h0, if_neg hq] at e0
  have Om : N20 (-1, ()) = some ((-1, 18446744073709551615), ()) := wOf (a := -1) (by omega)
  have Sb := wSign hb
  have hb1 : wabs (wv b0 b1) = 1 := by
    have q0 : 0 ≤ wabs (wv a0 a1) / wabs (wv b0 b1) := Int.ediv_nonneg hA.1 (by omega)
    rcases Int.lt_or_le 1 (wabs (wv b0 b1)) with h | h
    · exfalso
      have := mul_small (show 2 ≤ wabs (wv b0 b1) by omega) q0 (Int.ediv_mul_le (wabs (wv a0 a1)) (show wabs (wv b0 b1) ≠ 0 by omega))
      refine hq ?_
      unfold inR qv
      split <;> omega
    · have : wabs (wv b0 b1) ≠ 0 := by unfold wabs; split <;> omega
      omega
  have hbm : wv b0 b1 = -1 := by
    rcases Int.lt_or_le (wv b0 b1) 0 with h | h
    · unfold wabs at hb1; rw [if_pos h] at hb1; omega
    · exfalso
      have e1 : wv b0 b1 = 1 := by unfold wabs at hb1; rw [if_neg (by omega)] at hb1; exact hb1
      refine hq ?_
      have := wv_in ha
      rw [e1]
      unfold inR qv wabs
      rw [if_neg (show ¬ (1 : Int) < 0 by omega), Int.ediv_one, decide_eq_false (show ¬ (1 : Int) < 0 by omega)]
      by_cases k : wv a0 a1 < 0
      · rw [if_pos k, decide_eq_true k, if_pos (by rfl)]; omega
      · rw [if_neg k, decide_eq_false k, if_neg (by simp)]; omega
  obtain ⟨rfl, rfl⟩ := wv_inj hb (show WB (-1) 18446744073709551615 from by unfold WB; omega) (by rw [hbm]; rfl)
  have Sb : N22 ((-1, 18446744073709551615), ()) = some (-1, ()) := Sb
  unfold N9 M9
  simp only []
  rw [awake_yes]
  simp only [Option.bind_some, Bool.not_true, cond_false]
  rw [e0]
  simp only [Option.bind_some, Sb, Om]
  rfl
theorem modes_whole {a0 a1 b0 b1 : Int} (ha : WB a0 a1) (hb : WB b0 b1) (h0 : ¬ wv b0 b1 = 0) (hq : inR (qv (wv a0 a1) (wv b0 b1))) (hr : rv (wv a0 a1) (wv b0 b1) = 0) : N9 ((a0, a1), (b0, b1), ()) = some (true, ()) := by
  have wq := WB_in hq
  have G := wQuoRem ha hb
  unfold qrans at G
  rw [if_neg h0, if_pos hq, hr] at G
  have G : N14 ((a0, a1), (b0, b1), ()) = some ((qv (wv a0 a1) (wv b0 b1) / 18446744073709551616, qv (wv a0 a1) (wv b0 b1) % 18446744073709551616), (0, 0), 0, ()) := G
  have O0 : N20 (0, ()) = some ((0, 0), ()) := wOf (a := 0) (by omega)
  have S0 : N22 ((0, 0), ()) = some (0, ()) := rfl
  have e : ∀ m : Int, 0 ≤ m → m ≤ 4 → N16 ((a0, a1), (b0, b1), m, ()) = some ((qv (wv a0 a1) (wv b0 b1) / 18446744073709551616, qv (wv a0 a1) (wv b0 b1) % 18446744073709551616), 0, ()) := by
    intro m h1 h2
    have := wDiv (mode := m) ha hb
    unfold divans at this
    rwa [if_neg (by omega), if_neg (by omega), if_neg h0, if_pos hq, if_pos hr] at this
  have D := wSub wq wq
  rw [Int.sub_self, show wans 0 = ((0, 0), 0, ()) from rfl] at D
  unfold N9 M9
  simp only []
  rw [awake_yes]
  simp only [e 0 (by omega) (by omega), e 1 (by omega) (by omega), e 2 (by omega) (by omega), e 3 (by omega) (by omega), e 4 (by omega) (by omega), D, G, O0, S0, Option.bind_some, Bool.not_true, bne_self_eq_false, cond_false, beq_self_eq_true, Bool.and_true, cond_true]
theorem modes_rest {a0 a1 b0 b1 : Int} (ha : WB a0 a1) (hb : WB b0 b1) (h0 : ¬ wv b0 b1 = 0) (hq : inR (qv (wv a0 a1) (wv b0 b1))) (hr : ¬ rv (wv a0 a1) (wv b0 b1) = 0) : N9 ((a0, a1), (b0, b1), ()) = some (true, ()) := by
  have hA := wabs_in ha
  have hB := wabs_in hb
  have wq := WB_in hq
  have hri := rv_in hA.2 hB.2 h0
  have wr := WB_in hri
  have G := wQuoRem ha hb
  unfold qrans at G
  rw [if_neg h0, if_pos hq] at G
  have Sr := wSign wr
  rw [wv_of, if_neg hr] at Sr
  have Sb := wSign hb
  rw [if_neg h0] at Sb
  have hb2 : 2 ≤ wabs (wv b0 b1) := by
    rcases Int.lt_or_le 1 (wabs (wv b0 b1)) with h | h
    · omega
    · exfalso
      have : wabs (wv b0 b1) ≠ 0 := by unfold wabs; split <;> omega
      refine hr ?_
      unfold rv
      rw [show wabs (wv b0 b1) = 1 from by omega, Int.emod_one]
      split <;> rfl
  have q0 : 0 ≤ wabs (wv a0 a1) / wabs (wv b0 b1) := Int.ediv_nonneg hA.1 (by omega)
  have hqs := mul_small hb2 q0 (Int.ediv_mul_le (wabs (wv a0 a1)) (show wabs (wv b0 b1) ≠ 0 by omega))
  obtain ⟨bl, hbl⟩ : ∃ bl, (!(decide (wv a0 a1 < 0) == decide (wv b0 b1 < 0))) = bl := ⟨_, rfl⟩
  have hF : inR (if bl = true then qv (wv a0 a1) (wv b0 b1) - 1 else qv (wv a0 a1) (wv b0 b1) + 1) := by
    unfold inR qv
    rw [hbl]
    cases bl
    · simp; omega
    · simp; omega
  have e : ∀ m : Int, 0 ≤ m → m ≤ 4 → N16 ((a0, a1), (b0, b1), m, ()) = some (bif far (wv a0 a1) (wv b0 b1) m then wans (if bl = true then qv (wv a0 a1) (wv b0 b1) - 1 else qv (wv a0 a1) (wv b0 b1) + 1) else ((qv (wv a0 a1) (wv b0 b1) / 18446744073709551616, qv (wv a0 a1) (wv b0 b1) % 18446744073709551616), 0, ())) := by
    intro m h1 h2
    have := wDiv (mode := m) ha hb
    unfold divans at this
    rwa [if_neg (by omega), if_neg (by omega), if_neg h0, if_pos hq, if_neg hr, hbl] at this
  have f0 : far (wv a0 a1) (wv b0 b1) 0 = bl := hbl
  have f1 : far (wv a0 a1) (wv b0 b1) 1 = !bl := by rw [← hbl]; rfl
  have f2 : far (wv a0 a1) (wv b0 b1) 2 = false := rfl
  have f3 : far (wv a0 a1) (wv b0 b1) 3 = bif decide (wabs (wv a0 a1) % wabs (wv b0 b1) = wabs (wv b0 b1) - wabs (wv a0 a1) % wabs (wv b0 b1)) then true else decide (wabs (wv a0 a1) % wabs (wv b0 b1) ≥ wabs (wv b0 b1) - wabs (wv a0 a1) % wabs (wv b0 b1)) := rfl
  have f4 : far (wv a0 a1) (wv b0 b1) 4 = bif decide (wabs (wv a0 a1) % wabs (wv b0 b1) = wabs (wv b0 b1) - wabs (wv a0 a1) % wabs (wv b0 b1)) then decide (qv (wv a0 a1) (wv b0 b1) % 18446744073709551616 % 2 = 1) else decide (wabs (wv a0 a1) % wabs (wv b0 b1) ≥ wabs (wv b0 b1) - wabs (wv a0 a1) % wabs (wv b0 b1)) := rfl
  have hwr := wabs_rv (A := wv a0 a1) h0
  have rr0 := Int.emod_nonneg (wabs (wv a0 a1)) (show wabs (wv b0 b1) ≠ 0 by omega)
  have rr1 := Int.emod_lt_of_pos (wabs (wv a0 a1)) (show 0 < wabs (wv b0 b1) by omega)
  have e0 := e 0 (by omega) (by omega)
  have e1 := e 1 (by omega) (by omega)
  have e2 := e 2 (by omega) (by omega)
  have e3 := e 3 (by omega) (by omega)
  have e4 := e 4 (by omega) (by omega)
  clear e
  rw [f0] at e0
  rw [f1] at e1
  rw [f2] at e2
  rw [f3] at e3
  rw [f4] at e4
  clear f0 f1 f2 f3 f4 hqs q0 hbl
  generalize wabs (wv a0 a1) % wabs (wv b0 b1) = ra at *
  generalize qv (wv a0 a1) (wv b0 b1) = Q at *
  generalize rv (wv a0 a1) (wv b0 b1) = R at *
  obtain ⟨H, hHi, hHa, hH⟩ : ∃ H, inR H ∧ wabs H = wabs (wv b0 b1) - ra ∧ ((decide (wv b0 b1 < 0) == decide (R < 0)) = true ∧ H = wv b0 b1 - R ∨ (decide (wv b0 b1 < 0) == decide (R < 0)) = false ∧ H = wv b0 b1 + R) := by
    have hbi := wv_in hb
    generalize wv b0 b1 = B at *
    clear e0 e1 e2 e3 e4 G Sr Sb
    unfold inR at hri
    unfold wabs at hwr rr1
    by_cases k1 : B < 0 <;> by_cases k2 : R < 0
    · refine ⟨B - R, ?_, ?_, .inl ⟨by simp [k1, k2], rfl⟩⟩
      · unfold inR; omega
      · unfold wabs; rw [if_pos k1] at *; rw [if_pos k2] at *; split <;> omega
    · refine ⟨B + R, ?_, ?_, .inr ⟨by simp [k1, k2], rfl⟩⟩
      · unfold inR; omega
      · unfold wabs; rw [if_pos k1] at *; rw [if_neg k2] at *; split <;> omega
    · refine ⟨B + R, ?_, ?_, .inr ⟨by simp [k1, k2], rfl⟩⟩
      · unfold inR; omega
      · unfold wabs; rw [if_neg k1] at *; rw [if_pos k2] at *; split <;> omega
    · refine ⟨B - R, ?_, ?_, .inl ⟨by simp [k1, k2], rfl⟩⟩
      · unfold inR; omega
      · unfold wabs; rw [if_neg k1] at *; rw [if_neg k2] at *; split <;> omega
  have wh := WB_in hHi
  have NR := wNearer wr wh
  have NH := wNearer wh wr
  rw [wv_of, wv_of, hwr, hHa] at NR NH
  have hz : ∃ z0 z1 z2, N24 ((b0, b1), (R / 18446744073709551616, R % 18446744073709551616), ()) = some ((z0, z1), z2, ()) ∧ (H = wv b0 b1 - R → z0 = H / 18446744073709551616 ∧ z1 = H % 18446744073709551616 ∧ z2 = 0) := by
    rw [wSub hb wr, wv_of]
    refine ⟨(wans (wv b0 b1 - R)).1.1, (wans (wv b0 b1 - R)).1.2, (wans (wv b0 b1 - R)).2.1, rfl, fun e => ?_⟩
    rw [← e, wans_in hHi]
    exact ⟨rfl, rfl, rfl⟩
  obtain ⟨z0, z1, z2, hz, hzz⟩ := hz
  have hqF : Q ≠ (if bl = true then Q - 1 else Q + 1) := by split <;> omega
  have hodd : (if bl = true then Q - 1 else Q + 1) % 18446744073709551616 % 2 = 1 - Q % 18446744073709551616 % 2 := by split <;> omega
  have hd : (bif bl then Q else (if bl = true then Q - 1 else Q + 1)) - (bif bl then (if bl = true then Q - 1 else Q + 1) else Q) = 1 := by cases bl <;> simp <;> omega
  generalize (if bl = true then Q - 1 else Q + 1) = F at *
  have wFp := WB_in hF
  have cp : ∀ c : Bool, (bif c then wans F else ((Q / 18446744073709551616, Q % 18446744073709551616), 0, ())) = ((bif c then F / 18446744073709551616 else Q / 18446744073709551616, bif c then F % 18446744073709551616 else Q % 18446744073709551616), 0, ()) := by
    intro c
    rw [wans_in hF]
    cases c <;> rfl
  rw [cp] at e0 e1 e2 e3 e4
  have e1 : N16 ((a0, a1), (b0, b1), 1, ()) = some ((bif bl then Q / 18446744073709551616 else F / 18446744073709551616, bif bl then Q % 18446744073709551616 else F % 18446744073709551616), 0, ()) := by
    rw [e1]
    cases bl <;> rfl
  have D : N24 ((bif bl then Q / 18446744073709551616 else F / 18446744073709551616, bif bl then Q % 18446744073709551616 else F % 18446744073709551616), (bif bl then F / 18446744073709551616 else Q / 18446744073709551616, bif bl then F % 18446744073709551616 else Q % 18446744073709551616), ()) = some ((0, 1), 0, ()) := by
    have w1 : wans 1 = ((0, 1), 0, ()) := rfl
    cases bl
    · simp only [cond_false] at hd ⊢
      rw [wSub wFp wq, wv_of, wv_of, hd, w1]
    · simp only [cond_true] at hd ⊢
      rw [wSub wq wFp, wv_of, wv_of, hd, w1]
  refine modes_final (h0 := H / 18446744073709551616) (h1 := H % 18446744073709551616) (same := (decide (wv b0 b1 < 0) == decide (R < 0))) (s := if R < 0 then -1 else 1) (t := if wv b0 b1 < 0 then -1 else 1) bl _ _ (decide (ra < wabs (wv b0 b1) - ra)) (decide (wabs (wv b0 b1) - ra < ra)) e0 e1 e2 e3 e4 D G (wOf (a := 0) (by omega)) (wOf (a := 1) (by omega)) Sr (by split <;> rfl) Sb hz (by rw [sg, sg]) (fun h => ?_) (fun h => ?_) NR NH (pair_ne hqF) (pair_ne (Ne.symm hqF)) (fun h => ?_) (fun h => ?_)
  · rcases hH with ⟨k1, k2⟩ | ⟨k1, k2⟩
    · exact hzz k2
    · rw [h] at k1; cases k1
  · rcases hH with ⟨k1, k2⟩ | ⟨k1, k2⟩
    · rw [h] at k1; cases k1
    · rw [wAdd hb wr, wv_of, ← k2, wans_in hHi]
  · rw [Bool.or_eq_true, decide_eq_true_eq, decide_eq_true_eq] at h
    rw [decide_eq_false (show ¬ ra = wabs (wv b0 b1) - ra by omega)]
    simp only [cond_false]
    refine ⟨?_, ?_⟩ <;> (rw [decide_eq_decide]; omega)
  · rw [Bool.or_eq_false_iff, decide_eq_false_iff_not, decide_eq_false_iff_not] at h
    rw [decide_eq_true (show ra = wabs (wv b0 b1) - ra by omega)]
    refine ⟨rfl, ?_⟩
    simp only [cond_true]
    by_cases hod : Q % 18446744073709551616 % 2 = 1
    · rw [decide_eq_true hod, cond_true, tmod_pos (by omega), hodd, hod]
      rfl
    · rw [decide_eq_false hod, cond_false, tmod_pos (by omega), show Q % 18446744073709551616 % 2 = 0 from by omega]
      rfl
theorem pureTimesModes : PTimesModes := by
  intro ⟨a0, a1⟩ ⟨b0, b1⟩ ha hb
  have ha : WB a0 a1 := ha
  have hb : WB b0 b1 := hb
  by_cases h0 : wv b0 b1 = 0
  · exact modes_zero ha hb h0
  · by_cases hq : inR (qv (wv a0 a1) (wv b0 b1))
    · by_cases hr : rv (wv a0 a1) (wv b0 b1) = 0
      · exact modes_whole ha hb h0 hq hr
      · exact modes_rest ha hb h0 hq hr
    · exact modes_over ha hb h0 hq
end Go.Proofs.Ytieeaicdpdidpaa.E
namespace Go.Proofs.Ytieeaicdpdidpaa.E
open Go Go.ChangeShapes Go.WideShapes Go.ChangeAt Go.RowKit Go.Proofs.Ytieeaicdpdidpaa
set_option linter.unusedVariables false
set_option maxRecDepth 100000
theorem own : ownKnob Try.prog.godebug = none := by kernel_rfl
theorem laidOut : laidOutB Try.prog = true := by kernel_rfl
theorem came26 : Came κ Try.prog 26 ((.pair (.int .i64) (.int .u64)) : K τ (Int × Int)) W26 := Came.struct Try.underlying26 (by kernel_rfl) (CameFs.cons (o1 := 1) rfl (by kernel_rfl) rfl (Came.i64 Try.underlying2) (CameFs.one rfl (by kernel_rfl) (Came.u64 Try.underlying24)))
theorem lifted (os : Os) (started : os.Started) (H : Type) (enc : TypeId × Value → H) :
    ReturnsInHanded {} Try.checked os 9 .any (Rows.timesModesSpec.pre6 enc Try.prog Try.f9 Rows.timesModesRow.domain false) (Rows.timesModesSpec.post enc Try.prog Try.f9 false true false false) := by
  refine returnsInHanded_of_change_sized (C := Try.checked) own started (by kernel_rfl) Try.func9
    (ChangeSpec.witness6 (enc := enc) (C := Try.checked) false ⟨#[], #[(.agg #[(.int .i64 0), (.int .u64 0)]), (.agg #[(.int .i64 0), (.int .u64 0)])], []⟩ 8 (by kernel_rfl) (by kernel_rfl) (by kernel_rfl) (by kernel_rfl)) ?_
  intro W base args ds gs before hval0 hW hcnd hsz0 _
  have hsz : (DataW.weightsEach Try.prog (Try.f9.params.toList ++ Rows.timesModesSpec.plain.varTypes Try.prog) (ds ++ gs)).all (· ≤ reachBytes) = true := hsz0
  have hval : ∀ (j : Nat) t v, Try.f9.params[j]? = some t → args[j]? = some v → Value.okWide Try.prog W .any base t v := hval0
  have hW' := hW
  obtain ⟨p, q, hA0, hV, rfl, hfz, hnd⟩ := hW
  have hA : DataW.TrodAll enc Try.prog W 0 (fun _ => true) true Try.f9.params.toList args.toList ds p := hA0
  rw [Try.params9] at hA hval hsz
  obtain ⟨v0, vs0, d0, ds0, p0, q0, hargs, rfl, rfl, h0, r0⟩ := trodAll_cons hA
  obtain ⟨v1, vs1, d1, ds1, p1, q1, rfl, rfl, rfl, h1, r1⟩ := trodAll_cons r0
  obtain ⟨rfl, rfl, rfl⟩ := trodAll_nil r1
  obtain rfl : args = #[v0, v1] := by cases args; simp_all
  obtain ⟨rfl, rfl⟩ := trodVars_none hV
  have hwt : ∀ (j : Nat) t d, [26, 26][j]? = some t → [d0, d1][j]? = some d → ∀ n ∈ DataW.weights Try.prog t d, n ≤ reachBytes := fun j t d h1 h2 n hn => by
    have := List.all_eq_true.1 hsz n (weights_each (j := j) (by simpa using (List.getElem?_append_left (l₂ := Rows.timesModesSpec.plain.varTypes Try.prog) (List.getElem?_eq_some_iff.1 h1).1).trans h1) (by simpa using h2) n hn)
    simpa using this
  have lt0 : ∀ x ∈ p0, x.block < W.heap.size := by obtain ⟨m, hm⟩ := h0; exact DataW.trod_lt m _ _ _ hm
  obtain ⟨a0, e0, y0⟩ := arg_agg Try.underlying26 rfl came26 (hval 0 26 v0 rfl rfl) h0 (hwt 0 26 d0 rfl rfl)
  have lt1 : ∀ x ∈ p1, x.block < W.heap.size := by obtain ⟨m, hm⟩ := h1; exact DataW.trod_lt m _ _ _ hm
  obtain ⟨a1, e1, y1⟩ := arg_agg Try.underlying26 rfl came26 (hval 1 26 v1 rfl rfl) h1 (hwt 1 26 d1 rfl rfl)
  have hp : N9 (a0, a1, ()) = some (true, ()) := pureTimesModes a0 a1 y0 y1
  refine (law_calls (i := i9) (n := N9) (F := Try.f9) (code := bodyOf Try.f9) s9 (by kernel_rfl) Try.func9 (by kernel_rfl) (by kernel_rfl) hp (argsK_cons e0 (argsK_cons e1 argsK_nil))).mono fun e W' ⟨he, bel⟩ => ?_
  subst he
  exact ⟨_, rfl, _, _, _, [], _, [], hW', trodAll_mk1 (shut_bool Try.underlying4 _), (trodAll_cons_mk (Below.trod laidOut (by kernel_rfl) (of_decide_eq_true (by kernel_rfl)) h0 bel lt0) (trodAll_cons_mk (Below.trod laidOut (by kernel_rfl) (of_decide_eq_true (by kernel_rfl)) h1 bel lt1) trodAll_mk0)), rfl, bel.frame _, fun h => by cases h⟩
theorem over : Rows.timesModesRow.holds Try.pinned (OpenSpec.ofChange Rows.timesModesSpec) :=
  OpenClaim.holds_of_wide 9 Try.f9 rfl rfl rfl rfl rfl rfl rfl ⟨rfl, rfl, rfl, rfl, rfl⟩ rfl rfl rfl rfl rfl (by kernel_rfl) Try.func9 (by kernel_rfl)
    (of_decide_eq_true (by kernel_rfl)) (by unfold Func.isWrapper; first | (rw [if_pos (by decide +kernel)]; kernel_rfl) | (rw [if_neg (by decide +kernel)]; exact ⟨rfl, rfl⟩))
    (fun os started H enc _ => lifted os started H enc)
theorem proved : Rows.TimesModesSaid := over
end Go.Proofs.Ytieeaicdpdidpaa.E
namespace Go.Proofs.Ytieeaicdpdidpaa
/-- The row, under a short name, for the claim. -/
theorem timesModes_holds : Rows.TimesModesSaid := Ytieeaicdpdidpaa.E.proved
#print axioms timesModes_holds
end Go.Proofs.Ytieeaicdpdidpaa
