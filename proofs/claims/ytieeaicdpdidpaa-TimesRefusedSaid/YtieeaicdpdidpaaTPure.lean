/-
  Products, quotients and rests of words, as the printed math/bits and quoRem reckon them. No condition beyond the words' own bounds.
-/
import Derived.Test.YtieeaicdpdidpaaPTFx
import Derived.Test.YtieeaicdpdidpaaWPlain
import Derived.Test.YtieeaicdpdidpaaBF
import Derived.Test.YtieeaicdpdidpaaWMore
import Derived.Laws.MathBits
import Derived.Lib.ItoaNum
namespace Go.Proofs.Ytieeaicdpdidpaa.PTF
open Go.RowKit Go.Proofs.YtieeaicdpdidpaaW.PrintWords Go.Proofs.YtieeaicdpdidpaaW.PrintMore
set_option linter.unusedVariables false
set_option linter.unusedSimpArgs false

theorem Mul64_f {x y : Int} (hx : 0 ≤ x ∧ x ≤ 18446744073709551615) (hy : 0 ≤ y ∧ y ≤ 18446744073709551615) : bits_Mul64.f x y = some (x * y / 18446744073709551616, x * y % 18446744073709551616) := by
  unfold bits_Mul64.f
  have h := mul64_arith x y hx.1 (by omega) hy.1 (by omega)
  simp only [u64_wrap]
  rw [and_low32 x hx.1 (by omega), and_low32 y hy.1 (by omega), and_low32 _ (by omega) (by omega)]
  rw [h]

theorem wrap_u (n : Int) (h : 0 ≤ n ∧ n ≤ 18446744073709551615) : IntKind.u64.wrap n = n := by rw [u64_wrap]; omega
/-- The quotient digit: what it is, by its two bounds. -/
structure Dig (D n u Q : Int) : Prop where
  lo : Q * D ≤ n * 4294967296 + u
  hi : n * 4294967296 + u < Q * D + D
  q0 : 0 ≤ Q
  q1 : Q ≤ 4294967295
theorem dig_of {D n u : Int} (hD : 0 < D) (hn : 0 ≤ n ∧ n < D) (hu : 0 ≤ u ∧ u ≤ 4294967295) : Dig D n u ((n * 4294967296 + u) / D) := by
  have h1 := Int.mul_ediv_add_emod (n * 4294967296 + u) D
  have h2 := Int.emod_nonneg (n * 4294967296 + u) (Int.ne_of_gt hD)
  have h3 := Int.emod_lt_of_pos (n * 4294967296 + u) hD
  have h4 : 0 ≤ (n * 4294967296 + u) / D := Int.ediv_nonneg (by omega) (by omega)
  have h5 : (n * 4294967296 + u) / D < 4294967296 := Int.ediv_lt_of_lt_mul hD (by omega)
  rw [Int.mul_comm] at h1
  exact ⟨by omega, by omega, h4, by omega⟩
theorem dig_above {D d1 d0 n u Q q r : Int} (hD : D = d1 * 4294967296 + d0) (h1 : 0 ≤ d1) (h0 : 0 ≤ d0) (hQ : Dig D n u Q) (e : n = q * d1 + r) : (q * d0 > 4294967296 * r + u ↔ Q < q) := by
  have hD0 : 0 ≤ D := by omega
  have e1 : q * D = q * d1 * 4294967296 + q * d0 := by rw [hD, Int.mul_add, Int.mul_assoc]
  have h2 := hQ.lo
  have h3 := hQ.hi
  constructor
  · intro h
    rcases Int.lt_or_le Q q with h4 | h4
    · exact h4
    · have := Int.mul_le_mul_of_nonneg_right h4 hD0
      omega
  · intro h
    have := Int.mul_le_mul_of_nonneg_right (show Q + 1 ≤ q by omega) hD0
    rw [Int.add_mul, Int.one_mul] at this
    omega
/-- Behind a step whose rest is past 2^32 the digit is found. -/
theorem dig_found {D d1 d0 n u Q q r : Int} (hD : D = d1 * 4294967296 + d0) (h1 : 0 ≤ d1) (h0 : 0 ≤ d0 ∧ d0 ≤ 4294967295) (hu : 0 ≤ u) (hQ : Dig D n u Q) (e : n = q * d1 + r) (hr : 4294967296 ≤ r) (hq : 0 ≤ q ∧ q ≤ 4294967295) (ha : Q ≤ q) : q = Q := by
  rcases Int.lt_or_le Q q with h4 | h4
  · have := (dig_above hD h1 h0.1 hQ e).2 h4
    have h5 : q * d0 ≤ 4294967295 * 4294967295 := Int.mul_le_mul hq.2 h0.2 h0.1 (by omega)
    omega
  · omega
/-- A guess past 2^32 leaves a small rest. -/
theorem dig_big {D d1 d0 n q r : Int} (hD : D = d1 * 4294967296 + d0) (h1 : 0 ≤ d1) (hn : n < D) (e : n = q * d1 + r) (hq : 4294967296 ≤ q) : r < d0 := by
  have := Int.mul_le_mul_of_nonneg_right hq h1
  omega
theorem first_digit {D d1 d0 n u Q : Int} (s u2 : Int) (hD : D = d1 * 4294967296 + d0) (h1 : 2147483648 ≤ d1 ∧ d1 ≤ 4294967295) (h0 : 0 ≤ d0 ∧ d0 ≤ 4294967295) (hn : 0 ≤ n ∧ n < D) (hu : 0 ≤ u ∧ u ≤ 4294967295) (hQ : Dig D n u Q) :
    ∀ (t : Nat) (k : Nat) (q r : Int), 4294967296 - r ≤ (t : Int) * 2147483648 → n = q * d1 + r → 0 ≤ r ∧ r ≤ 4294967295 → Q ≤ q → q ≤ 4294967297 →
      ∃ k', k ≤ k' ∧ bits_Div64.l0 (k + 2 * t) D s d1 d0 n u u2 q r = bits_Div64.j2 k' D s d1 d0 n u u2 Q := by
  intro t
  induction t with
  | zero =>
    intro k q r ht e hr ha hq
    omega
  | succ t ih =>
    intro k q r ht e hr ha hq
    have hup := dig_above hD (by omega) h0.1 hQ e
    have hq0 := hQ.q0
    have key : ∀ b : Bool, (b = true ↔ Q < q) → ∃ k', k ≤ k' ∧ bits_Div64.j1 (k + 2 * t + 1) D s d1 d0 n u u2 q r b = bits_Div64.j2 k' D s d1 d0 n u u2 Q := by
      intro b hb
      rw [bits_Div64.j1]
      by_cases hlt : Q < q
      · rw [if_pos (hb.2 hlt), wrap_u (r + d1) (by omega), wrap_u (q - 1) (by omega)]
        have e' : n = (q - 1) * d1 + (r + d1) := by rw [Int.sub_mul, Int.one_mul]; omega
        by_cases hr2 : r + d1 ≥ 4294967296
        · rw [if_pos hr2]
          have hq2 : q - 1 ≤ 4294967295 := by
            rcases Int.lt_or_le 4294967295 (q - 1) with h | h
            · have := dig_big hD (by omega) hn.2 e' (by omega)
              omega
            · exact h
          rw [dig_found hD (by omega) h0 hu.1 hQ e' hr2 ⟨by omega, hq2⟩ (by omega)]
          exact ⟨_, by omega, rfl⟩
        · rw [if_neg hr2]
          obtain ⟨k', hk, h⟩ := ih k (q - 1) (r + d1) (by omega) e' (by omega) (by omega) (by omega)
          exact ⟨k', hk, h⟩
      · rw [if_neg (fun h => hlt (hb.1 h)), show q = Q from by omega]
        exact ⟨_, by omega, rfl⟩
    rw [show k + 2 * (t + 1) = (k + 2 * t + 1) + 1 from by omega, bits_Div64.l0]
    by_cases hb : q ≥ 4294967296
    · rw [if_pos hb]
      have := hQ.q1
      exact key true (by simp; omega)
    · rw [if_neg hb]
      refine key _ ?_
      have hm : 0 ≤ q * d0 := Int.mul_nonneg (by omega) h0.1
      have hm2 : q * d0 ≤ 4294967295 * 4294967295 := Int.mul_le_mul (by omega) h0.2 h0.1 (by omega)
      rw [wrap_u (q * d0) (by omega), wrap_u (4294967296 * r) (by omega), wrap_u (4294967296 * r + u) (by omega), decide_eq_true_eq]
      exact hup
theorem second_digit {D d1 d0 n u Q : Int} (s q1 : Int) (hs : 0 ≤ s) (hD : D = d1 * 4294967296 + d0) (h1 : 2147483648 ≤ d1 ∧ d1 ≤ 4294967295) (h0 : 0 ≤ d0 ∧ d0 ≤ 4294967295) (hn : 0 ≤ n ∧ n < D) (hu : 0 ≤ u ∧ u ≤ 4294967295) (hQ : Dig D n u Q) :
    ∀ (t : Nat) (k : Nat) (q r : Int), 4294967296 - r ≤ (t : Int) * 2147483648 → n = q * d1 + r → 0 ≤ r ∧ r ≤ 4294967295 → Q ≤ q → q ≤ 4294967297 →
      bits_Div64.l1 (k + 2 * t) D s d1 d0 u q1 r n q = some (IntKind.u64.wrap ((IntKind.u64.wrap (q1 * 4294967296)) + Q), shr .u64 (IntKind.u64.wrap ((IntKind.u64.wrap ((IntKind.u64.wrap (n * 4294967296)) + u)) - (IntKind.u64.wrap (Q * D)))) s) := by
  intro t
  induction t with
  | zero =>
    intro k q r ht e hr ha hq
    omega
  | succ t ih =>
    intro k q r ht e hr ha hq
    have hup := dig_above hD (by omega) h0.1 hQ e
    have hq0 := hQ.q0
    have key : ∀ b : Bool, (b = true ↔ Q < q) → bits_Div64.j4 (k + 2 * t + 1) D s d1 d0 u q1 r n q b = some (IntKind.u64.wrap ((IntKind.u64.wrap (q1 * 4294967296)) + Q), shr .u64 (IntKind.u64.wrap ((IntKind.u64.wrap ((IntKind.u64.wrap (n * 4294967296)) + u)) - (IntKind.u64.wrap (Q * D)))) s) := by
      intro b hb
      rw [bits_Div64.j4]
      by_cases hlt : Q < q
      · rw [if_pos (hb.2 hlt), wrap_u (r + d1) (by omega), wrap_u (q - 1) (by omega)]
        have e' : n = (q - 1) * d1 + (r + d1) := by rw [Int.sub_mul, Int.one_mul]; omega
        by_cases hr2 : r + d1 ≥ 4294967296
        · rw [if_pos hr2]
          have hq2 : q - 1 ≤ 4294967295 := by
            rcases Int.lt_or_le 4294967295 (q - 1) with h | h
            · have := dig_big hD (by omega) hn.2 e' (by omega)
              omega
            · exact h
          rw [dig_found hD (by omega) h0 hu.1 hQ e' hr2 ⟨by omega, hq2⟩ (by omega), if_pos hs]
        · rw [if_neg hr2]
          exact ih k (q - 1) (r + d1) (by omega) e' (by omega) (by omega) (by omega)
      · rw [if_neg (fun h => hlt (hb.1 h)), show q = Q from by omega, if_pos hs]
    rw [show k + 2 * (t + 1) = (k + 2 * t + 1) + 1 from by omega, bits_Div64.l1]
    by_cases hb : q ≥ 4294967296
    · rw [if_pos hb]
      have := hQ.q1
      exact key true (by simp; omega)
    · rw [if_neg hb]
      refine key _ ?_
      have hm : 0 ≤ q * d0 := Int.mul_nonneg (by omega) h0.1
      have hm2 : q * d0 ≤ 4294967295 * 4294967295 := Int.mul_le_mul (by omega) h0.2 h0.1 (by omega)
      rw [wrap_u (q * d0) (by omega), wrap_u (4294967296 * r) (by omega), wrap_u (4294967296 * r + u) (by omega), decide_eq_true_eq]
      exact hup
/-- The first guess: n / d1. -/
theorem guess {D d1 d0 n u Q : Int} (hD : D = d1 * 4294967296 + d0) (h1 : 2147483648 ≤ d1 ∧ d1 ≤ 4294967295) (h0 : 0 ≤ d0 ∧ d0 ≤ 4294967295) (hn : 0 ≤ n ∧ n < D) (hu : 0 ≤ u ∧ u ≤ 4294967295) (hQ : Dig D n u Q) :
    n = n / d1 * d1 + n % d1 ∧ (0 ≤ n % d1 ∧ n % d1 ≤ 4294967295) ∧ Q ≤ n / d1 ∧ n / d1 ≤ 4294967297 ∧ 0 ≤ n / d1 := by
  have e := Int.mul_ediv_add_emod n d1
  rw [Int.mul_comm] at e
  have r0 := Int.emod_nonneg n (show d1 ≠ 0 by omega)
  have r1 := Int.emod_lt_of_pos n (show 0 < d1 by omega)
  have q0 : 0 ≤ n / d1 := Int.ediv_nonneg hn.1 (by omega)
  have hup := dig_above hD (by omega) h0.1 hQ e.symm
  refine ⟨by omega, ⟨r0, by omega⟩, ?_, ?_, q0⟩
  · rcases Int.lt_or_le (n / d1) Q with h | h
    · exfalso
      have h2 := hQ.lo
      have h3 := Int.mul_le_mul_of_nonneg_right (show n / d1 + 1 ≤ Q by omega) (show 0 ≤ D by omega)
      have e1 : (n / d1 + 1) * D = (n / d1 * d1 + d1) * 4294967296 + (n / d1 * d0 + d0) := by rw [hD, Int.add_mul, Int.one_mul, Int.mul_add, Int.add_mul, Int.mul_assoc]; omega
      have h4 : 0 ≤ n / d1 * d0 := Int.mul_nonneg q0 h0.1
      omega
    · exact h
  · rcases Int.lt_or_le 4294967297 (n / d1) with h | h
    · exfalso
      have := Int.mul_le_mul_of_nonneg_right (show 4294967298 ≤ n / d1 by omega) (show 0 ≤ d1 by omega)
      omega
    · exact h

theorem tdiv_pos {a b : Int} (ha : 0 ≤ a) : Int.tdiv a b = a / b := Int.tdiv_eq_ediv_of_nonneg ha
theorem tmod_pos {a b : Int} (ha : 0 ≤ a) : Int.tmod a b = a % b := Int.tmod_eq_emod_of_nonneg ha
/-- Two parts of a word beside one another. -/
theorem or_parts {a b S : Int} {s : Nat} (hS : S = 2 ^ s) (ha : 0 ≤ a) (hb : 0 ≤ b ∧ b < S) (h : a * S + b ≤ 18446744073709551615) : Go.bits .or .u64 (a * S) b = a * S + b := by
  have hS0 : 0 < S := by rw [hS]; exact Int.pow_pos (by decide)
  have h0 : 0 ≤ a * S := Int.mul_nonneg ha (by omega)
  obtain ⟨A, rfl⟩ := Int.eq_ofNat_of_zero_le ha
  obtain ⟨B, rfl⟩ := Int.eq_ofNat_of_zero_le hb.1
  have e : ((A : Int) * S) = ((A * 2 ^ s : Nat) : Int) := by rw [hS]; simp
  have hB : B < 2 ^ s := by have := hb.2; rw [hS] at this; exact_mod_cast this
  rw [e] at h ⊢
  rw [u64_or_nat _ _ (by omega) (by omega), Nat.mul_comm, ← Nat.two_pow_add_eq_or_of_lt hB]
  simp
theorem Div64_core (D d1 d0 n u1 u0 s : Int) (hs : 0 ≤ s) (hD : D = d1 * 4294967296 + d0) (h1 : 2147483648 ≤ d1 ∧ d1 ≤ 4294967295) (h0 : 0 ≤ d0 ∧ d0 ≤ 4294967295) (hn : 0 ≤ n ∧ n < D) (hu1 : 0 ≤ u1 ∧ u1 ≤ 4294967295) (hu0 : 0 ≤ u0 ∧ u0 ≤ 4294967295) (k : Nat) (hk : 9 ≤ k) :
    ∃ q r2, 0 ≤ q ∧ q ≤ 18446744073709551615 ∧ 0 ≤ r2 ∧ r2 < D ∧ n * 18446744073709551616 + u1 * 4294967296 + u0 = q * D + r2 ∧ bits_Div64.l0 k D s d1 d0 n u1 u0 (IntKind.u64.wrap (Int.tdiv n d1)) (IntKind.u64.wrap (n - (IntKind.u64.wrap ((IntKind.u64.wrap (Int.tdiv n d1)) * d1)))) = some (q, shr .u64 r2 s) := by
  have hD0 : 0 < D := by omega
  have hD1 : D ≤ 18446744073709551615 := by omega
  have gen : ∀ m : Int, 0 ≤ m ∧ m < D → ∀ u Q : Int, 0 ≤ u ∧ u ≤ 4294967295 → Dig D m u Q → IntKind.u64.wrap (Int.tdiv m d1) = m / d1 ∧ IntKind.u64.wrap (m - (IntKind.u64.wrap ((m / d1) * d1))) = m % d1 := by
    intro m hm u Q hu hQ
    obtain ⟨e, hr, hq, hq2, hq0⟩ := guess hD h1 h0 hm hu hQ
    have hp : 0 ≤ m / d1 * d1 := Int.mul_nonneg hq0 (by omega)
    rw [tdiv_pos hm.1, wrap_u (m / d1) (by omega), wrap_u (m / d1 * d1) (by omega), wrap_u _ (by omega)]
    exact ⟨rfl, by omega⟩
  have hQ1 := dig_of hD0 hn hu1
  generalize (n * 4294967296 + u1) / D = Q1 at hQ1
  have a1 := hQ1.lo
  have a2 := hQ1.hi
  have a3 := hQ1.q0
  have a4 := hQ1.q1
  have hn2 : 0 ≤ n * 4294967296 + u1 - Q1 * D ∧ n * 4294967296 + u1 - Q1 * D < D := by omega
  have hQ0 := dig_of hD0 hn2 hu0
  generalize hn2e : n * 4294967296 + u1 - Q1 * D = n2 at *
  generalize (n2 * 4294967296 + u0) / D = Q0 at hQ0
  have b1 := hQ0.lo
  have b2 := hQ0.hi
  have b3 := hQ0.q0
  have b4 := hQ0.q1
  refine ⟨Q1 * 4294967296 + Q0, n2 * 4294967296 + u0 - Q0 * D, by omega, by omega, by omega, by omega, ?_, ?_⟩
  · rw [Int.add_mul, Int.mul_assoc, Int.mul_comm 4294967296 D, ← Int.mul_assoc]
    omega
  · obtain ⟨g1, g2⟩ := gen n hn u1 Q1 hu1 hQ1
    obtain ⟨e, hr, hq, hq2, hq0⟩ := guess hD h1 h0 hn hu1 hQ1
    rw [g1, g2]
    obtain ⟨k', hk', h⟩ := first_digit s u0 hD h1 h0 hn hu1 hQ1 2 (k - 4) (n / d1) (n % d1) (by omega) e hr hq hq2
    rw [show k - 4 + 2 * 2 = k from by omega] at h
    rw [h]
    obtain ⟨m, rfl⟩ : ∃ m, k' = m + 1 := ⟨k' - 1, by omega⟩
    rw [bits_Div64.j2, if_neg (by omega)]
    have e21 : IntKind.u64.wrap ((IntKind.u64.wrap ((IntKind.u64.wrap (n * 4294967296)) + u1)) - (IntKind.u64.wrap (Q1 * D))) = n2 := by
      simp only [u64_wrap]
      omega
    rw [e21]
    obtain ⟨g3, g4⟩ := gen n2 hn2 u0 Q0 hu0 hQ0
    obtain ⟨f, fr, fq, fq2, fq0⟩ := guess hD h1 h0 hn2 hu0 hQ0
    rw [g3, g4]
    have h2 := second_digit s Q1 hs hD h1 h0 hn2 hu0 hQ0 2 (m - 4) (n2 / d1) (n2 % d1) (by omega) f fr fq fq2
    rw [show m - 4 + 2 * 2 = m from by omega] at h2
    rw [h2]
    congr 2
    · rw [wrap_u (Q1 * 4294967296) (by omega), wrap_u _ (by omega)]
    · congr 1
      simp only [u64_wrap]
      omega
theorem bitLen_two (y : Int) (h : 1 ≤ y ∧ y ≤ 18446744073709551615) : 1 ≤ Lib.bitLen y.toNat ∧ Lib.bitLen y.toNat ≤ 64 ∧ (2 : Int) ^ (Lib.bitLen y.toNat - 1) ≤ y ∧ y < 2 ^ Lib.bitLen y.toNat := by
  obtain ⟨Y, rfl⟩ := Int.eq_ofNat_of_zero_le (show 0 ≤ y by omega)
  rw [Int.toNat_natCast]
  obtain ⟨h1, h2, h3⟩ := Lib.bitLenAux_bounds 64 Y (by omega) (by omega)
  refine ⟨h1, ?_, by exact_mod_cast h2, by exact_mod_cast h3⟩
  rcases Nat.lt_or_ge 64 (Lib.bitLen Y) with h4 | h4
  · have h5 : 2 ^ 64 ≤ 2 ^ (Lib.bitLen Y - 1) := Nat.pow_le_pow_right (by decide) (by omega)
    have h6 : 2 ^ (Lib.bitLen Y - 1) ≤ Y := h2
    omega
  · exact h4
theorem shl_in {x : Int} {s : Nat} (hs : s ≤ 64) (h : 0 ≤ x * 2 ^ s ∧ x * 2 ^ s ≤ 18446744073709551615) : shl .u64 x (s : Int) = x * 2 ^ s := by
  unfold shl
  rw [Int.toNat_natCast, show (IntKind.u64.bits) = 64 from rfl, Nat.min_eq_left hs, wrap_u _ h]
theorem shl_mod {x : Int} {s : Nat} (hs : s ≤ 64) : shl .u64 x (s : Int) = x * 2 ^ s % 18446744073709551616 := by
  unfold shl
  rw [Int.toNat_natCast, show (IntKind.u64.bits) = 64 from rfl, Nat.min_eq_left hs, u64_wrap]
theorem shr_in {x : Int} {s : Nat} (hs : s ≤ 64) : shr .u64 x (s : Int) = x / 2 ^ s := by
  unfold shr
  rw [Int.toNat_natCast, show (IntKind.u64.bits) = 64 from rfl, Nat.min_eq_left hs]
/-- Quotient and rest, by what makes them. -/
theorem div_mod_of {a b q r : Int} (hb : 0 < b) (e : a = q * b + r) (hr : 0 ≤ r ∧ r < b) : a / b = q ∧ a % b = r := by
  subst e
  refine ⟨?_, ?_⟩
  · rw [Int.add_comm, Int.add_mul_ediv_right _ _ (by omega), Int.ediv_eq_zero_of_lt hr.1 hr.2, Int.zero_add]
  · rw [Int.add_comm, Int.add_mul_emod_self_right, Int.emod_eq_of_lt hr.1 hr.2]
theorem Div64_f {hi lo y : Int} (h1 : 0 ≤ hi ∧ hi < y) (hy : y ≤ 18446744073709551615) (hl : 0 ≤ lo ∧ lo ≤ 18446744073709551615) (k : Nat) (hk : 9 ≤ k) :
    bits_Div64.f k hi lo y = some ((hi * 18446744073709551616 + lo) / y, (hi * 18446744073709551616 + lo) % y) := by
  unfold bits_Div64.f
  rw [if_neg (by omega), if_neg (by omega)]
  by_cases h0 : hi = 0
  · rw [if_pos h0, h0, Int.zero_mul, Int.zero_add, tdiv_pos hl.1, tmod_pos hl.1]
    have a1 : 0 ≤ lo / y := Int.ediv_nonneg hl.1 (by omega)
    have a2 : lo / y ≤ lo := Int.ediv_le_self _ hl.1
    rw [wrap_u _ (by omega)]
  · rw [if_neg h0]
    obtain ⟨l1, l2, l3, l4⟩ := bitLen_two y (by omega)
    have hlz : bits_LeadingZeros64.f y = some ((64 - Lib.bitLen y.toNat : Nat) : Int) := by
      unfold bits_LeadingZeros64.f
      rw [show BF.Len64.f y = some ((Lib.bitLen y.toNat : Nat) : Int) from if_pos (by omega), Option.bind_some]
      congr 1
      unfold wrap64
      omega
    rw [hlz, Option.bind_some]
    generalize hL : Lib.bitLen y.toNat = L at *
    obtain ⟨s, hs⟩ : ∃ s, s = 64 - L := ⟨_, rfl⟩
    rw [← hs, wrap_u (s : Int) (by omega), show (64 : Int) - s = ((64 - s : Nat) : Int) from by omega, wrap_u ((64 - s : Nat) : Int) (by omega)]
    rw [if_pos (by omega), if_pos (by omega)]
    have hST : (2 : Int) ^ s * 2 ^ (64 - s) = 18446744073709551616 := by rw [← Int.pow_add, show s + (64 - s) = 64 from by omega]; decide
    have hS : (0 : Int) < 2 ^ s := Int.pow_pos (by decide)
    have hT : (0 : Int) < 2 ^ (64 - s) := Int.pow_pos (by decide)
    have hTL : (2 : Int) ^ (64 - s) = 2 ^ L := by rw [show 64 - s = L from by omega]
    have hT1 : (2 : Int) ^ (64 - s) = 2 * 2 ^ (L - 1) := by
      have e : (2 : Int) ^ L = 2 ^ (L - 1 + 1) := by congr 1; omega
      rw [hTL, e, Int.pow_succ]; omega
    have hD1 : y * 2 ^ s ≤ 18446744073709551616 - 2 ^ s := by
      have := Int.mul_le_mul_of_nonneg_right (show y + 1 ≤ 2 ^ (64 - s) by omega) (Int.le_of_lt hS)
      rw [Int.add_mul, Int.one_mul, Int.mul_comm (2 ^ (64 - s))] at this
      omega
    have hD2 : 9223372036854775808 ≤ y * 2 ^ s := by
      have := Int.mul_le_mul_of_nonneg_right (show 2 ^ (64 - s) ≤ 2 * y by omega) (Int.le_of_lt hS)
      rw [Int.mul_comm (2 ^ (64 - s)), Int.mul_assoc] at this
      omega
    have hhi : hi * 2 ^ s ≤ y * 2 ^ s - 2 ^ s := by
      have := Int.mul_le_mul_of_nonneg_right (show hi + 1 ≤ y by omega) (Int.le_of_lt hS)
      rw [Int.add_mul, Int.one_mul] at this
      omega
    have hhi0 : 0 ≤ hi * 2 ^ s := Int.mul_nonneg h1.1 (Int.le_of_lt hS)
    have hlT : 0 ≤ lo / 2 ^ (64 - s) ∧ lo / 2 ^ (64 - s) < 2 ^ s := ⟨Int.ediv_nonneg hl.1 (Int.le_of_lt hT), Int.ediv_lt_of_lt_mul hT (by omega)⟩
    rw [shl_in (x := y) (s := s) (by omega) (by omega), shl_in (x := hi) (s := s) (by omega) (by omega), shr_in (x := lo) (s := 64 - s) (by omega), shl_mod (x := lo) (s := s) (by omega)]
    rw [or_parts rfl h1.1 hlT (by omega)]
    have hlo2 : lo * 2 ^ s = lo / 2 ^ (64 - s) * 18446744073709551616 + lo * 2 ^ s % 18446744073709551616 := by
      have e1 := Int.mul_ediv_add_emod lo (2 ^ (64 - s))
      have e2 : lo * 2 ^ s / 18446744073709551616 = lo / 2 ^ (64 - s) := by
        rw [← hST, Int.mul_comm lo, Int.mul_ediv_mul_of_pos _ _ hS]
      have e3 := Int.mul_ediv_add_emod (lo * 2 ^ s) 18446744073709551616
      rw [e2] at e3
      omega
    generalize hlx : lo / 2 ^ (64 - s) = t at *
    generalize hly : lo * 2 ^ s % 18446744073709551616 = x at *
    have hx : 0 ≤ x ∧ x < 18446744073709551616 := by rw [← hly]; omega
    generalize hDy : y * 2 ^ s = D at *
    rw [if_neg (by omega), and_low32 D (by omega) (by omega), and_low32 x hx.1 (by omega)]
    obtain ⟨q, r2, q0, q1, r0, r1, e, h⟩ := Div64_core D (D / 4294967296) (D % 4294967296) (hi * 2 ^ s + t) (x / 4294967296) (x % 4294967296) s (by omega) (by omega) (by omega) (by omega) (by omega) (by omega) (by omega) k hk
    rw [h, shr_in (by omega)]
    have eM : (hi * 18446744073709551616 + lo) * 2 ^ s = q * D + r2 := by
      rw [Int.add_mul, hlo2, Int.mul_right_comm]
      omega
    have er : r2 = (hi * 18446744073709551616 + lo - q * y) * 2 ^ s := by
      rw [Int.sub_mul, Int.mul_assoc q y, hDy]
      omega
    have e1 : r2 / 2 ^ s = hi * 18446744073709551616 + lo - q * y := by rw [er, Int.mul_ediv_cancel _ (by omega)]
    have hr0 : 0 ≤ hi * 18446744073709551616 + lo - q * y := by rw [← e1]; exact Int.ediv_nonneg r0 (Int.le_of_lt hS)
    have hr1 : hi * 18446744073709551616 + lo - q * y < y := by rw [← e1]; exact Int.ediv_lt_of_lt_mul hS (by rw [hDy]; exact r1)
    obtain ⟨f1, f2⟩ := div_mod_of (a := hi * 18446744073709551616 + lo) (b := y) (q := q) (r := hi * 18446744073709551616 + lo - q * y) (by omega) (by omega) ⟨hr0, hr1⟩
    rw [f1, f2, e1]

theorem and_bit {x : Int} (h : 0 ≤ x ∧ x ≤ 18446744073709551615) : Go.bits .and .u64 x 1 = x % 2 := by
  obtain ⟨X, rfl⟩ := Int.eq_ofNat_of_zero_le h.1
  rw [show (1 : Int) = ((1 : Nat) : Int) from rfl, u64_and_nat X 1 (by omega) (by omega), Nat.and_one_is_mod]
  simp
theorem two_step {a : Int} {m : Nat} : a / 2 ^ m = 2 * (a / 2 ^ (m + 1)) + a / 2 ^ m % 2 := by
  have hp : (0 : Int) < 2 ^ m := Int.pow_pos (by decide)
  rw [Int.pow_succ, ← Int.ediv_ediv_of_nonneg (Int.le_of_lt hp)]
  omega
theorem qr_l0 (a al bh bl : Int) (hbh : 0 ≤ bh) (hbl : 0 ≤ bl ∧ bl ≤ 18446744073709551615) (hB : bh * 18446744073709551616 + bl ≤ 170141183460469231731687303715884105728) (hB0 : 18446744073709551616 ≤ bh * 18446744073709551616 + bl)
    (hal : 0 ≤ al ∧ al ≤ 18446744073709551615) (ha : 0 ≤ a) (hal2 : a % 18446744073709551616 = al) (haB : a < (bh * 18446744073709551616 + bl) * 18446744073709551616) : ∀ (m k : Nat) (Q R : Int), m ≤ 64 →
      a / 2 ^ m = Q * (bh * 18446744073709551616 + bl) + R → 0 ≤ R ∧ R < bh * 18446744073709551616 + bl → 0 ≤ Q →
      times_quoRem.l0 (k + 1 + 2 * m) al bh bl (Q * 2 ^ m) (R / 18446744073709551616) (R % 18446744073709551616) ((m : Int) - 1) =
        some (0, a / (bh * 18446744073709551616 + bl), a % (bh * 18446744073709551616 + bl) / 18446744073709551616, a % (bh * 18446744073709551616 + bl) % 18446744073709551616) := by
  intro m
  induction m with
  | zero =>
    intro k Q R hm e hR hQ
    rw [Int.pow_zero, Int.ediv_one] at e
    obtain ⟨e1, e2⟩ := div_mod_of (by omega) e hR
    rw [Nat.mul_zero, Nat.add_zero, times_quoRem.l0, if_neg (by omega), e1, e2, Int.pow_zero, Int.mul_one]
  | succ m ih =>
    intro k Q R hm e hR hQ
    have hp : (0 : Int) < 2 ^ m := Int.pow_pos (by decide)
    have hp2 : (2 : Int) ^ (m + 1) = 2 * 2 ^ m := by rw [Int.pow_succ]; omega
    have hstep := two_step (a := a) (m := m)
    have hbit : 0 ≤ a / 2 ^ m % 2 ∧ a / 2 ^ m % 2 ≤ 1 := by omega
    have ebit : al / 2 ^ m % 2 = a / 2 ^ m % 2 := by
      have h1 := Int.mul_ediv_add_emod a 18446744073709551616
      rw [hal2] at h1
      have h2 : (18446744073709551616 : Int) = 2 ^ m * (2 * 2 ^ (63 - m)) := by
        rw [show (18446744073709551616 : Int) = 2 ^ 64 from by decide, show (64 : Nat) = m + (1 + (63 - m)) from by omega, Int.pow_add, Int.pow_add]
        rfl
      have h3 : a / 2 ^ m = 2 * (2 ^ (63 - m) * (a / 18446744073709551616)) + al / 2 ^ m := by
        conv => lhs; rw [← h1, h2]
        rw [show (2 : Int) ^ m * (2 * 2 ^ (63 - m)) * (a / (2 ^ m * (2 * 2 ^ (63 - m)))) + al = al + 2 ^ m * (2 * (2 ^ (63 - m) * (a / (2 ^ m * (2 * 2 ^ (63 - m)))))) from by
          rw [Int.mul_assoc (2 ^ m), Int.mul_assoc 2]; omega, Int.add_mul_ediv_left _ _ (by omega), ← h2]
        omega
      omega
    rw [show k + 1 + 2 * (m + 1) = (k + 1 + 2 * m) + 1 + 1 from by omega, show (((m + 1 : Nat) : Int) - 1) = (m : Int) from by omega, times_quoRem.l0, if_pos (by omega), if_pos (by omega)]
    have o1 : Go.bits .or .u64 (IntKind.u64.wrap (R / 18446744073709551616 * 2)) (R % 18446744073709551616 / 9223372036854775808) = (2 * R + a / 2 ^ m % 2) / 18446744073709551616 := by
      rw [wrap_u _ (by omega), or_parts (s := 1) (by rfl) (by omega) (by omega) (by omega)]
      omega
    have o2 : Go.bits .or .u64 (IntKind.u64.wrap (R % 18446744073709551616 * 2)) (Go.bits .and .u64 (shr .u64 al (m : Int)) 1) = (2 * R + a / 2 ^ m % 2) % 18446744073709551616 := by
      have hs0 : 0 ≤ al / 2 ^ m := Int.ediv_nonneg hal.1 (Int.le_of_lt hp)
      have hs1 : al / 2 ^ m ≤ al := Int.ediv_le_self _ hal.1
      rw [shr_in (by omega), and_bit (by omega), ebit, show IntKind.u64.wrap (R % 18446744073709551616 * 2) = R % 9223372036854775808 * 2 from by rw [u64_wrap]; omega, or_parts (s := 1) (by rfl) (by omega) (by omega) (by omega)]
      omega
    rw [o1, o2]
    have eR : a / 2 ^ m = 2 * Q * (bh * 18446744073709551616 + bl) + (2 * R + a / 2 ^ m % 2) := by
      rw [Int.mul_assoc]; omega
    have hR' : 0 ≤ 2 * R + a / 2 ^ m % 2 ∧ 2 * R + a / 2 ^ m % 2 < 2 * (bh * 18446744073709551616 + bl) := by omega
    generalize hRe : 2 * R + a / 2 ^ m % 2 = R' at *
    have key : ∀ b : Bool, (b = true ↔ bh * 18446744073709551616 + bl ≤ R') → times_quoRem.j1 (k + 1 + 2 * m + 1) al bh bl (Q * 2 ^ (m + 1)) (R' / 18446744073709551616) (R' % 18446744073709551616) (m : Int) b =
        some (0, a / (bh * 18446744073709551616 + bl), a % (bh * 18446744073709551616 + bl) / 18446744073709551616, a % (bh * 18446744073709551616 + bl) % 18446744073709551616) := by
      intro b hb
      rw [times_quoRem.j1, show wrap64 ((m : Int) - 1) = (m : Int) - 1 from by unfold wrap64; omega]
      by_cases hle : bh * 18446744073709551616 + bl ≤ R'
      · rw [if_pos (hb.2 hle)]
        have c1 : sub64Hi (R' % 18446744073709551616) bl 0 = -((R' % 18446744073709551616 - bl - 0) / 18446744073709551616) := sub64_hi (by omega) hbl (by omega)
        have c2 : 0 ≤ sub64Hi (R' % 18446744073709551616) bl 0 ∧ sub64Hi (R' % 18446744073709551616) bl 0 ≤ 1 := by rw [c1]; omega
        rw [if_pos c2.2, if_pos (by omega)]
        have s1 : sub64Lo (R' % 18446744073709551616) bl 0 = (R' - (bh * 18446744073709551616 + bl)) % 18446744073709551616 := by
          rw [sub64_lo (by omega) hbl (by omega)]; omega
        have s2 : sub64Lo (R' / 18446744073709551616) bh (sub64Hi (R' % 18446744073709551616) bl 0) = (R' - (bh * 18446744073709551616 + bl)) / 18446744073709551616 := by
          rw [sub64_lo (by omega) (by omega) c2, c1]; omega
        rw [s1, s2]
        have hQm : (2 * Q + 1) * 2 ^ m ≤ 18446744073709551615 := by
          have h1 : (2 * Q + 1) * (bh * 18446744073709551616 + bl) ≤ a / 2 ^ m := by rw [Int.add_mul, Int.one_mul]; omega
          have h2 := Int.mul_le_mul_of_nonneg_right h1 (Int.le_of_lt hp)
          have h3 : a / 2 ^ m * 2 ^ m ≤ a := Int.ediv_mul_le a (by omega)
          rw [Int.mul_right_comm] at h2
          rcases Int.lt_or_le 18446744073709551615 ((2 * Q + 1) * 2 ^ m) with h4 | h4
          · exfalso
            have h5 := Int.mul_le_mul_of_nonneg_right (show 18446744073709551616 ≤ (2 * Q + 1) * 2 ^ m by omega) (show 0 ≤ bh * 18446744073709551616 + bl by omega)
            rw [Int.mul_comm 18446744073709551616] at h5
            omega
          · exact h4
        have hQm2 : (2 * Q + 1) * 2 ^ m = Q * 2 ^ (m + 1) + 2 ^ m := by rw [hp2, Int.add_mul, Int.one_mul, Int.mul_comm 2 Q, Int.mul_assoc]
        have hQ0 : 0 ≤ Q * 2 ^ (m + 1) := Int.mul_nonneg hQ (by omega)
        have o3 : Go.bits .or .u64 (Q * 2 ^ (m + 1)) (shl .u64 1 (m : Int)) = (2 * Q + 1) * 2 ^ m := by
          rw [shl_in (by omega) (by omega), Int.one_mul, or_parts (s := m + 1) rfl hQ (by omega) (by omega), hQm2]
        rw [o3]
        exact ih k (2 * Q + 1) (R' - (bh * 18446744073709551616 + bl)) (by omega) (by rw [Int.add_mul, Int.one_mul]; omega) (by omega) (by omega)
      · rw [if_neg (fun h => hle (hb.1 h)), show Q * 2 ^ (m + 1) = 2 * Q * 2 ^ m from by rw [hp2, Int.mul_comm 2 Q, Int.mul_assoc]]
        exact ih k (2 * Q) R' (by omega) eR (by omega) (by omega)
    by_cases g1 : R' / 18446744073709551616 > bh
    · rw [if_pos g1]
      exact key true (by simp; omega)
    · rw [if_neg g1]
      by_cases g2 : R' / 18446744073709551616 = bh
      · rw [if_pos g2]
        exact key _ (by rw [decide_eq_true_eq]; omega)
      · rw [if_neg g2]
        exact key false (by simp; omega)
theorem quoRem_f {ah al bh bl : Int} (h1 : 0 ≤ ah ∧ ah ≤ 18446744073709551615) (h2 : 0 ≤ al ∧ al ≤ 18446744073709551615) (h3 : 0 ≤ bh ∧ bh ≤ 18446744073709551615) (h4 : 0 ≤ bl ∧ bl ≤ 18446744073709551615)
    (hB : 1 ≤ bh * 18446744073709551616 + bl ∧ bh * 18446744073709551616 + bl ≤ 170141183460469231731687303715884105728) (k : Nat) (hk : 200 ≤ k) :
    times_quoRem.f k ah al bh bl = some ((ah * 18446744073709551616 + al) / (bh * 18446744073709551616 + bl) / 18446744073709551616, (ah * 18446744073709551616 + al) / (bh * 18446744073709551616 + bl) % 18446744073709551616,
      (ah * 18446744073709551616 + al) % (bh * 18446744073709551616 + bl) / 18446744073709551616, (ah * 18446744073709551616 + al) % (bh * 18446744073709551616 + bl) % 18446744073709551616) := by
  unfold times_quoRem.f
  by_cases h0 : bh = 0
  · rw [if_pos h0, if_neg (by omega), tmod_pos h1.1, tdiv_pos h1.1]
    have r0 := Int.emod_nonneg ah (show bl ≠ 0 by omega)
    have r1 := Int.emod_lt_of_pos ah (show 0 < bl by omega)
    have q0 : 0 ≤ ah / bl := Int.ediv_nonneg h1.1 (by omega)
    have q1 : ah / bl ≤ ah := Int.ediv_le_self _ h1.1
    have e := Int.mul_ediv_add_emod ah bl
    rw [Int.mul_comm] at e
    rw [Div64_f ⟨r0, r1⟩ h4.2 h2 k (by omega), Option.bind_some, wrap_u _ (by omega)]
    generalize ah % bl = r at *
    generalize ah / bl = q at *
    have f := Int.mul_ediv_add_emod (r * 18446744073709551616 + al) bl
    have f0 := Int.emod_nonneg (r * 18446744073709551616 + al) (show bl ≠ 0 by omega)
    have f1 := Int.emod_lt_of_pos (r * 18446744073709551616 + al) (show 0 < bl by omega)
    have g0 : 0 ≤ (r * 18446744073709551616 + al) / bl := Int.ediv_nonneg (by omega) (by omega)
    have g1 : (r * 18446744073709551616 + al) / bl < 18446744073709551616 := Int.ediv_lt_of_lt_mul (by omega) (by omega)
    rw [Int.mul_comm] at f
    generalize (r * 18446744073709551616 + al) / bl = t at *
    generalize (r * 18446744073709551616 + al) % bl = u at *
    have e0 : ah * 18446744073709551616 + al = (q * 18446744073709551616 + t) * (bh * 18446744073709551616 + bl) + u := by
      rw [h0, Int.zero_mul, Int.zero_add, Int.add_mul, Int.mul_right_comm]
      omega
    obtain ⟨d1, d2⟩ := div_mod_of (by omega) e0 ⟨f0, by omega⟩
    rw [d1, d2]
    congr 2
    · omega
    · congr 1
      · omega
      · congr 1 <;> omega
  · rw [if_neg h0]
    have h := qr_l0 (ah * 18446744073709551616 + al) al bh bl h3.1 h4 hB.2 (by omega) h2 (by omega) (by omega) (by omega) 64 (k - 129) 0 ah (by omega) (by rw [show (2 : Int) ^ 64 = 18446744073709551616 from by decide]; omega) (by omega) (by omega)
    rw [show k - 129 + 1 + 2 * 64 = k from by omega, Int.zero_mul, show ah / 18446744073709551616 = 0 from by omega, show ah % 18446744073709551616 = ah from by omega] at h
    rw [show ((64 : Nat) : Int) - 1 = 63 from by decide] at h
    rw [h]
    have q1 : (ah * 18446744073709551616 + al) / (bh * 18446744073709551616 + bl) < 18446744073709551616 := Int.ediv_lt_of_lt_mul (by omega) (by omega)
    have q0 : 0 ≤ (ah * 18446744073709551616 + al) / (bh * 18446744073709551616 + bl) := Int.ediv_nonneg (by omega) (by omega)
    congr 2
    · omega
    · congr 1
      omega

end Go.Proofs.Ytieeaicdpdidpaa.PTF
