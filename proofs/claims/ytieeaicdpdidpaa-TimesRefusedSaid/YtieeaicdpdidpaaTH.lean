/-
  Package times' Power: what it answers. No condition on the number.
-/
import Derived.Test.YtieeaicdpdidpaaTG
import Derived.Test.YtieeaicdpdidpaaPTPx
namespace Go.Proofs.Ytieeaicdpdidpaa.TF
open Go.RowKit Go.Proofs.YtieeaicdpdidpaaW.PrintWords
open WF
set_option linter.unusedVariables false
set_option linter.unusedSimpArgs false
theorem Power_l0 (a : Int) (ha : a ≤ 9) : ∀ (n : Nat) (k : Nat) (j : Nat), (j : Int) + n = a → n + 1 ≤ k →
    PTP.times_Power.l0 k a j ((10000 : Int) ^ j / 18446744073709551616) ((10000 : Int) ^ j % 18446744073709551616) = some ((10000 : Int) ^ (j + n) / 18446744073709551616, (10000 : Int) ^ (j + n) % 18446744073709551616, 0)
  | 0, k + 1, j, h, hk => by
    rw [PTP.times_Power.l0, if_neg (by omega)]
    rfl
  | n + 1, k + 1, j, h, hk => by
    have hb : ∀ i : Nat, i ≤ 9 → -170141183460469231731687303715884105728 ≤ (10000 : Int) ^ i ∧ (10000 : Int) ^ i ≤ 170141183460469231731687303715884105727 := by
      intro i hi
      have h1 : (0 : Int) < 10000 ^ i := Int.pow_pos (by decide)
      have h2 : (10000 : Nat) ^ i ≤ 10000 ^ 9 := Nat.pow_le_pow_right (by decide) hi
      have h3 : ((10000 ^ i : Nat) : Int) ≤ ((1000000000000000000000000000000000000 : Nat) : Int) := Int.ofNat_le.2 (Nat.le_trans h2 (by decide))
      have e : ((10000 ^ i : Nat) : Int) = (10000 : Int) ^ i := by rw [Int.natCast_pow]; rfl
      rw [e] at h3
      omega
    have hj := hb j (by omega)
    have hj1 := hb (j + 1) (by omega)
    have hw : WB ((10000 : Int) ^ j / 18446744073709551616) ((10000 : Int) ^ j % 18446744073709551616) := WB_split hj
    rw [PTP.times_Power.l0, if_pos (by omega), Of_f (by omega), Option.bind_some, Mul_f hw (WB_of (by omega)), wv_of, wv_of, ← Int.pow_succ, wans_in hj1, Option.bind_some]
    have e : wrap64 ((j : Int) + 1) = ((j + 1 : Nat) : Int) := by unfold wrap64; omega
    rw [e, Power_l0 a ha n k (j + 1) (by omega) (by omega), show j + 1 + n = j + (n + 1) from by omega]
def Power.f (a0 : Int) : Option (Int × Int × Int) := some (if a0 < 0 then (0, 0, 1) else if 9 < a0 then (0, 0, 10) else ((10000 : Int) ^ a0.toNat / 18446744073709551616, (10000 : Int) ^ a0.toNat % 18446744073709551616, 0))
theorem Power_is (a0 : Int) : PTP.times_Power.f 20 a0 = Power.f a0 := by
  unfold PTP.times_Power.f Power.f
  by_cases h0 : a0 < 0
  · rw [if_pos h0, if_pos h0]
  rw [if_neg h0, if_neg h0]
  by_cases h9 : a0 > 9
  · rw [if_pos h9, if_pos h9]
  rw [if_neg h9, if_neg h9, Of_f (by omega), Option.bind_some]
  have h := Power_l0 a0 (by omega) a0.toNat 20 0 (by omega) (by omega)
  rw [show 0 + a0.toNat = a0.toNat from by omega] at h
  exact h
theorem Power.calls (a0 r1 r2 r3 : Int) (w : World) (h : Power.f a0 = some (r1, r2, r3)) :
    Calls Try.prog 18 #[.int .i64 a0] w fun e w' => e = .returned (.tuple #[.agg #[.int .i64 r1, .int .u64 r2], .int .i64 r3]) ∧ Below w.heap.size w w' :=
  PTP.times_Power.calls 20 a0 r1 r2 r3 w ((Power_is a0).trans h)
end Go.Proofs.Ytieeaicdpdidpaa.TF
