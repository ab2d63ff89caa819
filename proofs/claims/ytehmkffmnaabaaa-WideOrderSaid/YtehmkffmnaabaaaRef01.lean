/-
  Contracts of the reference's functions over arrays of twelve digits of 2^16: each answers the digits of the sum, the opposite, .. of the numbers whose digits came in. No condition but that digits are digits and words are words (else the printed function is none).
-/
import Derived.Test.YtehmkffmnaabaaaExt
import Derived.Test.YtehmkffmnaabaaaWPlain
import Derived.Test.YtehmkffmnaabaaaWWords
import Derived.WalkKit
import Derived.Below
import Derived.RowKit3
import Derived.Deep.LoopGhost
import Derived.Deep.OwnRows
import Derived.Deep.QuietTactic
import Derived.BigQuiet
import Derived.Lib.Hide
import Derived.Laws.Bits64
import Derived.ChangeKeysEq
namespace Go.Proofs.Ytehmkffmnaabaaa.Ref01
open Go.RowKit Go.Proofs.YtehmkffmnaabaaaW.PrintWords
set_option linter.unusedVariables false
set_option linter.unusedSimpArgs false
/-- digit j of a number, base 65536 -/
def dg (V : Int) (j : Nat) : Int := V / 65536 ^ j % 65536
/-- the carry into digit j of a sum -/
def cy (V U : Int) (j : Nat) : Int := (V % 65536 ^ j + U % 65536 ^ j) / 65536 ^ j
theorem pow_pos' (j : Nat) : (0 : Int) < 65536 ^ j := Int.pow_pos (by decide)
theorem emod_step (V : Int) (j : Nat) : V % 65536 ^ (j + 1) = dg V j * 65536 ^ j + V % 65536 ^ j := by
  unfold dg
  have h := pow_pos' j
  rw [Int.pow_succ]
  generalize (65536 : Int) ^ j = B at *
  rw [Int.emod_def V (B * 65536), Int.emod_def V B, Int.emod_def (V / B) 65536, Int.ediv_ediv_of_nonneg (by omega), Int.sub_mul, Int.mul_comm (V / B) B, Int.mul_assoc B 65536, Int.mul_assoc 65536, Int.mul_comm (V / (B * 65536)) B, ← Int.mul_assoc 65536 B, ← Int.mul_assoc B 65536, Int.mul_comm 65536 B]
  omega
theorem plus_dg (V U : Int) (j : Nat) : dg (V + U) j = (cy V U j + dg V j + dg U j) % 65536 := by
  unfold dg cy
  have h := pow_pos' j
  generalize (65536 : Int) ^ j = B at *
  have e : (V + U) / B = V / B + U / B + (V % B + U % B) / B := by
    have h1 := Int.mul_ediv_add_emod V B
    have h2 := Int.mul_ediv_add_emod U B
    have : V + U = (V % B + U % B) + B * (V / B + U / B) := by rw [Int.mul_add]; omega
    rw [this, Int.add_mul_ediv_left _ _ (by omega)]
    omega
  rw [e]
  omega
theorem plus_cy (V U : Int) (j : Nat) : cy V U (j + 1) = (cy V U j + dg V j + dg U j) / 65536 := by
  show (V % 65536 ^ (j + 1) + U % 65536 ^ (j + 1)) / 65536 ^ (j + 1) = ((V % 65536 ^ j + U % 65536 ^ j) / 65536 ^ j + dg V j + dg U j) / 65536
  rw [emod_step, emod_step, Int.pow_succ]
  have h := pow_pos' j
  generalize dg V j = d
  generalize dg U j = e
  generalize (65536 : Int) ^ j = B at *
  generalize V % B = r
  generalize U % B = s
  rw [← Int.ediv_ediv_of_nonneg (by omega), show d * B + r + (e * B + s) = (r + s) + (d + e) * B from by rw [Int.add_mul]; omega, Int.add_mul_ediv_right _ _ (by omega)]
  congr 1
  omega
theorem setCell_drewN' (w : World) (n : Nat) (p : Addr) (v : Value) : (w.drewN n).setCell p v = (w.setCell p v).drewN n := rfl
theorem dg_in (V : Int) (j : Nat) : 0 ≤ dg V j ∧ dg V j ≤ 65535 := by unfold dg; omega
theorem cy_in (V U : Int) (j : Nat) : 0 ≤ cy V U j ∧ cy V U j ≤ 1 := by
  unfold cy
  have h : (0 : Int) < 65536 ^ j := Int.pow_pos (by decide)
  have a1 := Int.emod_nonneg V (Int.ne_of_gt h)
  have a2 := Int.emod_lt_of_pos V h
  have b1 := Int.emod_nonneg U (Int.ne_of_gt h)
  have b2 := Int.emod_lt_of_pos U h
  exact ⟨Int.ediv_nonneg (by omega) (by omega), Int.le_of_lt_add_one (Int.ediv_lt_of_lt_mul h (by omega))⟩
theorem bcell {W w1 : World} (hb : Below W.heap.size W w1) : (∀ b o, b < W.heap.size → w1.cell? ⟨b, o, none⟩ = W.cell? ⟨b, o, none⟩) ∧ (∀ b o, b < W.heap.size → w1.frozen? ⟨b, o, none⟩ = W.frozen? ⟨b, o, none⟩) :=
  ⟨fun b o h => hb.cell (p := ⟨b, o, none⟩) h, fun b o h => hb.frozen (p := ⟨b, o, none⟩) h⟩
theorem below_next {w X w2 : World} (h : Below w.heap.size w X) (k : Below X.heap.size X w2) : Below w.heap.size w w2 := below_then h h.size k

def longA (V : Int) : Array Value := #[.int .u64 (dg V 0), .int .u64 (dg V 1), .int .u64 (dg V 2), .int .u64 (dg V 3), .int .u64 (dg V 4), .int .u64 (dg V 5), .int .u64 (dg V 6), .int .u64 (dg V 7), .int .u64 (dg V 8), .int .u64 (dg V 9), .int .u64 (dg V 10), .int .u64 (dg V 11)]
def zeroA : Array Value := #[.int .u64 0, .int .u64 0, .int .u64 0, .int .u64 0, .int .u64 0, .int .u64 0, .int .u64 0, .int .u64 0, .int .u64 0, .int .u64 0, .int .u64 0, .int .u64 0]
def tup (V : Int) : Int × Int × Int × Int × Int × Int × Int × Int × Int × Int × Int × Int := (dg V 0, dg V 1, dg V 2, dg V 3, dg V 4, dg V 5, dg V 6, dg V 7, dg V 8, dg V 9, dg V 10, dg V 11)
def bnd (a0 a1 a2 a3 a4 a5 a6 a7 a8 a9 a10 a11 : Int) : Prop := (0 ≤ a0 ∧ a0 ≤ 65535) ∧ (0 ≤ a1 ∧ a1 ≤ 65535) ∧ (0 ≤ a2 ∧ a2 ≤ 65535) ∧ (0 ≤ a3 ∧ a3 ≤ 65535) ∧ (0 ≤ a4 ∧ a4 ≤ 65535) ∧ (0 ≤ a5 ∧ a5 ≤ 65535) ∧ (0 ≤ a6 ∧ a6 ≤ 65535) ∧ (0 ≤ a7 ∧ a7 ≤ 65535) ∧ (0 ≤ a8 ∧ a8 ≤ 65535) ∧ (0 ≤ a9 ∧ a9 ≤ 65535) ∧ (0 ≤ a10 ∧ a10 ≤ 65535) ∧ (0 ≤ a11 ∧ a11 ≤ 65535)
instance (a0 a1 a2 a3 a4 a5 a6 a7 a8 a9 a10 a11 : Int) : Decidable (bnd a0 a1 a2 a3 a4 a5 a6 a7 a8 a9 a10 a11) := by unfold bnd; infer_instance
def lval (a0 a1 a2 a3 a4 a5 a6 a7 a8 a9 a10 a11 : Int) : Int := a0 + a1 * 65536 + a2 * 4294967296 + a3 * 281474976710656 + a4 * 18446744073709551616 + a5 * 1208925819614629174706176 + a6 * 79228162514264337593543950336 + a7 * 5192296858534827628530496329220096 + a8 * 340282366920938463463374607431768211456 + a9 * 22300745198530623141535718272648361505980416 + a10 * 1461501637330902918203684832716283019655932542976 + a11 * 95780971304118053647396689196894323976171195136475136
theorem bnd_dg (V : Int) : bnd (dg V 0) (dg V 1) (dg V 2) (dg V 3) (dg V 4) (dg V 5) (dg V 6) (dg V 7) (dg V 8) (dg V 9) (dg V 10) (dg V 11) := by
  unfold bnd
  exact ⟨dg_in V 0, dg_in V 1, dg_in V 2, dg_in V 3, dg_in V 4, dg_in V 5, dg_in V 6, dg_in V 7, dg_in V 8, dg_in V 9, dg_in V 10, dg_in V 11⟩
theorem lval_dg (V : Int) : lval (dg V 0) (dg V 1) (dg V 2) (dg V 3) (dg V 4) (dg V 5) (dg V 6) (dg V 7) (dg V 8) (dg V 9) (dg V 10) (dg V 11) = V % 6277101735386680763835789423207666416102355444464034512896 := by
  unfold lval dg
  simp only [show (65536 : Int) ^ 0 = 1 from by decide, show (65536 : Int) ^ 1 = 65536 from by decide, show (65536 : Int) ^ 2 = 4294967296 from by decide, show (65536 : Int) ^ 3 = 281474976710656 from by decide, show (65536 : Int) ^ 4 = 18446744073709551616 from by decide, show (65536 : Int) ^ 5 = 1208925819614629174706176 from by decide, show (65536 : Int) ^ 6 = 79228162514264337593543950336 from by decide, show (65536 : Int) ^ 7 = 5192296858534827628530496329220096 from by decide, show (65536 : Int) ^ 8 = 340282366920938463463374607431768211456 from by decide, show (65536 : Int) ^ 9 = 22300745198530623141535718272648361505980416 from by decide, show (65536 : Int) ^ 10 = 1461501637330902918203684832716283019655932542976 from by decide, show (65536 : Int) ^ 11 = 95780971304118053647396689196894323976171195136475136 from by decide]
  omega
theorem dg_lval {a0 a1 a2 a3 a4 a5 a6 a7 a8 a9 a10 a11 : Int} (h : bnd a0 a1 a2 a3 a4 a5 a6 a7 a8 a9 a10 a11) : dg (lval a0 a1 a2 a3 a4 a5 a6 a7 a8 a9 a10 a11) 0 = a0 ∧ dg (lval a0 a1 a2 a3 a4 a5 a6 a7 a8 a9 a10 a11) 1 = a1 ∧ dg (lval a0 a1 a2 a3 a4 a5 a6 a7 a8 a9 a10 a11) 2 = a2 ∧ dg (lval a0 a1 a2 a3 a4 a5 a6 a7 a8 a9 a10 a11) 3 = a3 ∧ dg (lval a0 a1 a2 a3 a4 a5 a6 a7 a8 a9 a10 a11) 4 = a4 ∧ dg (lval a0 a1 a2 a3 a4 a5 a6 a7 a8 a9 a10 a11) 5 = a5 ∧ dg (lval a0 a1 a2 a3 a4 a5 a6 a7 a8 a9 a10 a11) 6 = a6 ∧ dg (lval a0 a1 a2 a3 a4 a5 a6 a7 a8 a9 a10 a11) 7 = a7 ∧ dg (lval a0 a1 a2 a3 a4 a5 a6 a7 a8 a9 a10 a11) 8 = a8 ∧ dg (lval a0 a1 a2 a3 a4 a5 a6 a7 a8 a9 a10 a11) 9 = a9 ∧ dg (lval a0 a1 a2 a3 a4 a5 a6 a7 a8 a9 a10 a11) 10 = a10 ∧ dg (lval a0 a1 a2 a3 a4 a5 a6 a7 a8 a9 a10 a11) 11 = a11 := by
  unfold bnd at h
  unfold lval dg
  simp only [show (65536 : Int) ^ 0 = 1 from by decide, show (65536 : Int) ^ 1 = 65536 from by decide, show (65536 : Int) ^ 2 = 4294967296 from by decide, show (65536 : Int) ^ 3 = 281474976710656 from by decide, show (65536 : Int) ^ 4 = 18446744073709551616 from by decide, show (65536 : Int) ^ 5 = 1208925819614629174706176 from by decide, show (65536 : Int) ^ 6 = 79228162514264337593543950336 from by decide, show (65536 : Int) ^ 7 = 5192296858534827628530496329220096 from by decide, show (65536 : Int) ^ 8 = 340282366920938463463374607431768211456 from by decide, show (65536 : Int) ^ 9 = 22300745198530623141535718272648361505980416 from by decide, show (65536 : Int) ^ 10 = 1461501637330902918203684832716283019655932542976 from by decide, show (65536 : Int) ^ 11 = 95780971304118053647396689196894323976171195136475136 from by decide]
  omega
theorem dg_mod (V : Int) : dg (V % 6277101735386680763835789423207666416102355444464034512896) 0 = dg V 0 ∧ dg (V % 6277101735386680763835789423207666416102355444464034512896) 1 = dg V 1 ∧ dg (V % 6277101735386680763835789423207666416102355444464034512896) 2 = dg V 2 ∧ dg (V % 6277101735386680763835789423207666416102355444464034512896) 3 = dg V 3 ∧ dg (V % 6277101735386680763835789423207666416102355444464034512896) 4 = dg V 4 ∧ dg (V % 6277101735386680763835789423207666416102355444464034512896) 5 = dg V 5 ∧ dg (V % 6277101735386680763835789423207666416102355444464034512896) 6 = dg V 6 ∧ dg (V % 6277101735386680763835789423207666416102355444464034512896) 7 = dg V 7 ∧ dg (V % 6277101735386680763835789423207666416102355444464034512896) 8 = dg V 8 ∧ dg (V % 6277101735386680763835789423207666416102355444464034512896) 9 = dg V 9 ∧ dg (V % 6277101735386680763835789423207666416102355444464034512896) 10 = dg V 10 ∧ dg (V % 6277101735386680763835789423207666416102355444464034512896) 11 = dg V 11 := by
  unfold dg
  simp only [show (65536 : Int) ^ 0 = 1 from by decide, show (65536 : Int) ^ 1 = 65536 from by decide, show (65536 : Int) ^ 2 = 4294967296 from by decide, show (65536 : Int) ^ 3 = 281474976710656 from by decide, show (65536 : Int) ^ 4 = 18446744073709551616 from by decide, show (65536 : Int) ^ 5 = 1208925819614629174706176 from by decide, show (65536 : Int) ^ 6 = 79228162514264337593543950336 from by decide, show (65536 : Int) ^ 7 = 5192296858534827628530496329220096 from by decide, show (65536 : Int) ^ 8 = 340282366920938463463374607431768211456 from by decide, show (65536 : Int) ^ 9 = 22300745198530623141535718272648361505980416 from by decide, show (65536 : Int) ^ 10 = 1461501637330902918203684832716283019655932542976 from by decide, show (65536 : Int) ^ 11 = 95780971304118053647396689196894323976171195136475136 from by decide]
  omega
theorem of_digits {a0 a1 a2 a3 a4 a5 a6 a7 a8 a9 a10 a11 : Int} (h : bnd a0 a1 a2 a3 a4 a5 a6 a7 a8 a9 a10 a11) : ∃ V, lval a0 a1 a2 a3 a4 a5 a6 a7 a8 a9 a10 a11 = V ∧ dg V 0 = a0 ∧ dg V 1 = a1 ∧ dg V 2 = a2 ∧ dg V 3 = a3 ∧ dg V 4 = a4 ∧ dg V 5 = a5 ∧ dg V 6 = a6 ∧ dg V 7 = a7 ∧ dg V 8 = a8 ∧ dg V 9 = a9 ∧ dg V 10 = a10 ∧ dg V 11 = a11 := ⟨_, rfl, dg_lval h⟩
theorem of_tup {V : Int} {r1 r2 r3 r4 r5 r6 r7 r8 r9 r10 r11 r12 : Int} (h : tup V = (r1, r2, r3, r4, r5, r6, r7, r8, r9, r10, r11, r12)) : dg V 0 = r1 ∧ dg V 1 = r2 ∧ dg V 2 = r3 ∧ dg V 3 = r4 ∧ dg V 4 = r5 ∧ dg V 5 = r6 ∧ dg V 6 = r7 ∧ dg V 7 = r8 ∧ dg V 8 = r9 ∧ dg V 9 = r10 ∧ dg V 10 = r11 ∧ dg V 11 = r12 := by
  unfold tup at h
  simp only [Prod.mk.injEq] at h
  exact h
def plusA (V U : Int) : Nat → Array Value
  | 0 => #[.int .u64 (dg V 0), .int .u64 (dg V 1), .int .u64 (dg V 2), .int .u64 (dg V 3), .int .u64 (dg V 4), .int .u64 (dg V 5), .int .u64 (dg V 6), .int .u64 (dg V 7), .int .u64 (dg V 8), .int .u64 (dg V 9), .int .u64 (dg V 10), .int .u64 (dg V 11)]
  | 1 => #[.int .u64 (dg (V + U) 0), .int .u64 (dg V 1), .int .u64 (dg V 2), .int .u64 (dg V 3), .int .u64 (dg V 4), .int .u64 (dg V 5), .int .u64 (dg V 6), .int .u64 (dg V 7), .int .u64 (dg V 8), .int .u64 (dg V 9), .int .u64 (dg V 10), .int .u64 (dg V 11)]
  | 2 => #[.int .u64 (dg (V + U) 0), .int .u64 (dg (V + U) 1), .int .u64 (dg V 2), .int .u64 (dg V 3), .int .u64 (dg V 4), .int .u64 (dg V 5), .int .u64 (dg V 6), .int .u64 (dg V 7), .int .u64 (dg V 8), .int .u64 (dg V 9), .int .u64 (dg V 10), .int .u64 (dg V 11)]
  | 3 => #[.int .u64 (dg (V + U) 0), .int .u64 (dg (V + U) 1), .int .u64 (dg (V + U) 2), .int .u64 (dg V 3), .int .u64 (dg V 4), .int .u64 (dg V 5), .int .u64 (dg V 6), .int .u64 (dg V 7), .int .u64 (dg V 8), .int .u64 (dg V 9), .int .u64 (dg V 10), .int .u64 (dg V 11)]
  | 4 => #[.int .u64 (dg (V + U) 0), .int .u64 (dg (V + U) 1), .int .u64 (dg (V + U) 2), .int .u64 (dg (V + U) 3), .int .u64 (dg V 4), .int .u64 (dg V 5), .int .u64 (dg V 6), .int .u64 (dg V 7), .int .u64 (dg V 8), .int .u64 (dg V 9), .int .u64 (dg V 10), .int .u64 (dg V 11)]
  | 5 => #[.int .u64 (dg (V + U) 0), .int .u64 (dg (V + U) 1), .int .u64 (dg (V + U) 2), .int .u64 (dg (V + U) 3), .int .u64 (dg (V + U) 4), .int .u64 (dg V 5), .int .u64 (dg V 6), .int .u64 (dg V 7), .int .u64 (dg V 8), .int .u64 (dg V 9), .int .u64 (dg V 10), .int .u64 (dg V 11)]
  | 6 => #[.int .u64 (dg (V + U) 0), .int .u64 (dg (V + U) 1), .int .u64 (dg (V + U) 2), .int .u64 (dg (V + U) 3), .int .u64 (dg (V + U) 4), .int .u64 (dg (V + U) 5), .int .u64 (dg V 6), .int .u64 (dg V 7), .int .u64 (dg V 8), .int .u64 (dg V 9), .int .u64 (dg V 10), .int .u64 (dg V 11)]
  | 7 => #[.int .u64 (dg (V + U) 0), .int .u64 (dg (V + U) 1), .int .u64 (dg (V + U) 2), .int .u64 (dg (V + U) 3), .int .u64 (dg (V + U) 4), .int .u64 (dg (V + U) 5), .int .u64 (dg (V + U) 6), .int .u64 (dg V 7), .int .u64 (dg V 8), .int .u64 (dg V 9), .int .u64 (dg V 10), .int .u64 (dg V 11)]
  | 8 => #[.int .u64 (dg (V + U) 0), .int .u64 (dg (V + U) 1), .int .u64 (dg (V + U) 2), .int .u64 (dg (V + U) 3), .int .u64 (dg (V + U) 4), .int .u64 (dg (V + U) 5), .int .u64 (dg (V + U) 6), .int .u64 (dg (V + U) 7), .int .u64 (dg V 8), .int .u64 (dg V 9), .int .u64 (dg V 10), .int .u64 (dg V 11)]
  | 9 => #[.int .u64 (dg (V + U) 0), .int .u64 (dg (V + U) 1), .int .u64 (dg (V + U) 2), .int .u64 (dg (V + U) 3), .int .u64 (dg (V + U) 4), .int .u64 (dg (V + U) 5), .int .u64 (dg (V + U) 6), .int .u64 (dg (V + U) 7), .int .u64 (dg (V + U) 8), .int .u64 (dg V 9), .int .u64 (dg V 10), .int .u64 (dg V 11)]
  | 10 => #[.int .u64 (dg (V + U) 0), .int .u64 (dg (V + U) 1), .int .u64 (dg (V + U) 2), .int .u64 (dg (V + U) 3), .int .u64 (dg (V + U) 4), .int .u64 (dg (V + U) 5), .int .u64 (dg (V + U) 6), .int .u64 (dg (V + U) 7), .int .u64 (dg (V + U) 8), .int .u64 (dg (V + U) 9), .int .u64 (dg V 10), .int .u64 (dg V 11)]
  | 11 => #[.int .u64 (dg (V + U) 0), .int .u64 (dg (V + U) 1), .int .u64 (dg (V + U) 2), .int .u64 (dg (V + U) 3), .int .u64 (dg (V + U) 4), .int .u64 (dg (V + U) 5), .int .u64 (dg (V + U) 6), .int .u64 (dg (V + U) 7), .int .u64 (dg (V + U) 8), .int .u64 (dg (V + U) 9), .int .u64 (dg (V + U) 10), .int .u64 (dg V 11)]
  | 12 => #[.int .u64 (dg (V + U) 0), .int .u64 (dg (V + U) 1), .int .u64 (dg (V + U) 2), .int .u64 (dg (V + U) 3), .int .u64 (dg (V + U) 4), .int .u64 (dg (V + U) 5), .int .u64 (dg (V + U) 6), .int .u64 (dg (V + U) 7), .int .u64 (dg (V + U) 8), .int .u64 (dg (V + U) 9), .int .u64 (dg (V + U) 10), .int .u64 (dg (V + U) 11)]
  | _ => #[]
set_option maxHeartbeats 4000000 in
set_option maxRecDepth 100000 in
theorem Plus_any (V U : Int) (w : World) :
    Calls Try.prog 35 #[.agg (longA V), .agg (longA U)] w fun e w' => e = .returned (.agg (longA (V + U))) ∧ Below w.heap.size w w' := by
  obtain ⟨hv0a, hv0b⟩ := dg_in V 0
  obtain ⟨hv1a, hv1b⟩ := dg_in V 1
  obtain ⟨hv2a, hv2b⟩ := dg_in V 2
  obtain ⟨hv3a, hv3b⟩ := dg_in V 3
  obtain ⟨hv4a, hv4b⟩ := dg_in V 4
  obtain ⟨hv5a, hv5b⟩ := dg_in V 5
  obtain ⟨hv6a, hv6b⟩ := dg_in V 6
  obtain ⟨hv7a, hv7b⟩ := dg_in V 7
  obtain ⟨hv8a, hv8b⟩ := dg_in V 8
  obtain ⟨hv9a, hv9b⟩ := dg_in V 9
  obtain ⟨hv10a, hv10b⟩ := dg_in V 10
  obtain ⟨hv11a, hv11b⟩ := dg_in V 11
  obtain ⟨hu0a, hu0b⟩ := dg_in U 0
  obtain ⟨hu1a, hu1b⟩ := dg_in U 1
  obtain ⟨hu2a, hu2b⟩ := dg_in U 2
  obtain ⟨hu3a, hu3b⟩ := dg_in U 3
  obtain ⟨hu4a, hu4b⟩ := dg_in U 4
  obtain ⟨hu5a, hu5b⟩ := dg_in U 5
  obtain ⟨hu6a, hu6b⟩ := dg_in U 6
  obtain ⟨hu7a, hu7b⟩ := dg_in U 7
  obtain ⟨hu8a, hu8b⟩ := dg_in U 8
  obtain ⟨hu9a, hu9b⟩ := dg_in U 9
  obtain ⟨hu10a, hu10b⟩ := dg_in U 10
  obtain ⟨hu11a, hu11b⟩ := dg_in U 11
  simp only [longA]
  go_enter Try.func35, Try.ntmps35
  go_wp2
  go_loopw [5, 6] (fun c i wr => ∃ k n : Nat, k ≤ 12 ∧ i = .int .i64 k ∧ c = .int .u64 (cy V U k) ∧ wr = ((((w.alloc (.cells (plusA V U k) 54)).alloc (.cells (longA U) 54)).alloc (.cells zeroA 54)).drewN n)) (fun _ i _ => 12 - (intOf i).toNat)
  case atStart => exact ⟨0, 0, by omega, rfl, by simp [cy], rfl⟩
  case round =>
    obtain ⟨k, n, hk, rfl, rfl, rfl⟩ := hrel
    obtain ⟨hc1, hc2⟩ := cy_in V U k
    rcases (by omega : k = 0 ∨ k = 1 ∨ k = 2 ∨ k = 3 ∨ k = 4 ∨ k = 5 ∨ k = 6 ∨ k = 7 ∨ k = 8 ∨ k = 9 ∨ k = 10 ∨ k = 11 ∨ k = 12) with rfl | rfl | rfl | rfl | rfl | rfl | rfl | rfl | rfl | rfl | rfl | rfl | rfl
    · simp only [plusA, longA, zeroA]
      go_wp2
      go_quiet (fail)
      go_wp2
      go_roundw
      case rel => exact ⟨1, _, by omega, rfl, by rw [← plus_cy], by rw [setCell_drewN', ← plus_dg]; simp [go_sem]; rfl⟩
      case measure => simp [intOf]
    · simp only [plusA, longA, zeroA]
      go_wp2
      go_quiet (fail)
      go_wp2
      go_roundw
      case rel => exact ⟨2, _, by omega, rfl, by rw [← plus_cy], by rw [setCell_drewN', ← plus_dg]; simp [go_sem]; rfl⟩
      case measure => simp [intOf]
    · simp only [plusA, longA, zeroA]
      go_wp2
      go_quiet (fail)
      go_wp2
      go_roundw
      case rel => exact ⟨3, _, by omega, rfl, by rw [← plus_cy], by rw [setCell_drewN', ← plus_dg]; simp [go_sem]; rfl⟩
      case measure => simp [intOf]
    · simp only [plusA, longA, zeroA]
      go_wp2
      go_quiet (fail)
      go_wp2
      go_roundw
      case rel => exact ⟨4, _, by omega, rfl, by rw [← plus_cy], by rw [setCell_drewN', ← plus_dg]; simp [go_sem]; rfl⟩
      case measure => simp [intOf]
    · simp only [plusA, longA, zeroA]
      go_wp2
      go_quiet (fail)
      go_wp2
      go_roundw
      case rel => exact ⟨5, _, by omega, rfl, by rw [← plus_cy], by rw [setCell_drewN', ← plus_dg]; simp [go_sem]; rfl⟩
      case measure => simp [intOf]
    · simp only [plusA, longA, zeroA]
      go_wp2
      go_quiet (fail)
      go_wp2
      go_roundw
      case rel => exact ⟨6, _, by omega, rfl, by rw [← plus_cy], by rw [setCell_drewN', ← plus_dg]; simp [go_sem]; rfl⟩
      case measure => simp [intOf]
    · simp only [plusA, longA, zeroA]
      go_wp2
      go_quiet (fail)
      go_wp2
      go_roundw
      case rel => exact ⟨7, _, by omega, rfl, by rw [← plus_cy], by rw [setCell_drewN', ← plus_dg]; simp [go_sem]; rfl⟩
      case measure => simp [intOf]
    · simp only [plusA, longA, zeroA]
      go_wp2
      go_quiet (fail)
      go_wp2
      go_roundw
      case rel => exact ⟨8, _, by omega, rfl, by rw [← plus_cy], by rw [setCell_drewN', ← plus_dg]; simp [go_sem]; rfl⟩
      case measure => simp [intOf]
    · simp only [plusA, longA, zeroA]
      go_wp2
      go_quiet (fail)
      go_wp2
      go_roundw
      case rel => exact ⟨9, _, by omega, rfl, by rw [← plus_cy], by rw [setCell_drewN', ← plus_dg]; simp [go_sem]; rfl⟩
      case measure => simp [intOf]
    · simp only [plusA, longA, zeroA]
      go_wp2
      go_quiet (fail)
      go_wp2
      go_roundw
      case rel => exact ⟨10, _, by omega, rfl, by rw [← plus_cy], by rw [setCell_drewN', ← plus_dg]; simp [go_sem]; rfl⟩
      case measure => simp [intOf]
    · simp only [plusA, longA, zeroA]
      go_wp2
      go_quiet (fail)
      go_wp2
      go_roundw
      case rel => exact ⟨11, _, by omega, rfl, by rw [← plus_cy], by rw [setCell_drewN', ← plus_dg]; simp [go_sem]; rfl⟩
      case measure => simp [intOf]
    · simp only [plusA, longA, zeroA]
      go_wp2
      go_quiet (fail)
      go_wp2
      go_roundw
      case rel => exact ⟨12, _, by omega, rfl, by rw [← plus_cy], by rw [setCell_drewN', ← plus_dg]; simp [go_sem]; rfl⟩
      case measure => simp [intOf]
    · simp only [plusA, longA, zeroA]
      go_wp2
      exact bodyPost_ret (v := .agg (longA (V + U))) (by simp [results, Try.results35, go_sem, longA]) rfl ⟨rfl, by repeat (with_reducible first | apply pw_below_drewN | apply below_alloc | exact Below.refl _ _ | (refine below_set ?_ (by omega)))⟩
def Plus.f (a0 a1 a2 a3 a4 a5 a6 a7 a8 a9 a10 a11 b0 b1 b2 b3 b4 b5 b6 b7 b8 b9 b10 b11 : Int) : Option (Int × Int × Int × Int × Int × Int × Int × Int × Int × Int × Int × Int) := if bnd a0 a1 a2 a3 a4 a5 a6 a7 a8 a9 a10 a11 ∧ bnd b0 b1 b2 b3 b4 b5 b6 b7 b8 b9 b10 b11 then some (tup (lval a0 a1 a2 a3 a4 a5 a6 a7 a8 a9 a10 a11 + lval b0 b1 b2 b3 b4 b5 b6 b7 b8 b9 b10 b11)) else none
theorem Plus.calls (a0 a1 a2 a3 a4 a5 a6 a7 a8 a9 a10 a11 b0 b1 b2 b3 b4 b5 b6 b7 b8 b9 b10 b11 r1 r2 r3 r4 r5 r6 r7 r8 r9 r10 r11 r12 : Int) (w : World) (h : Plus.f a0 a1 a2 a3 a4 a5 a6 a7 a8 a9 a10 a11 b0 b1 b2 b3 b4 b5 b6 b7 b8 b9 b10 b11 = some (r1, r2, r3, r4, r5, r6, r7, r8, r9, r10, r11, r12)) :
    Calls Try.prog 35 #[.agg #[.int .u64 a0, .int .u64 a1, .int .u64 a2, .int .u64 a3, .int .u64 a4, .int .u64 a5, .int .u64 a6, .int .u64 a7, .int .u64 a8, .int .u64 a9, .int .u64 a10, .int .u64 a11], .agg #[.int .u64 b0, .int .u64 b1, .int .u64 b2, .int .u64 b3, .int .u64 b4, .int .u64 b5, .int .u64 b6, .int .u64 b7, .int .u64 b8, .int .u64 b9, .int .u64 b10, .int .u64 b11]] w fun e w' => e = .returned (.agg #[.int .u64 r1, .int .u64 r2, .int .u64 r3, .int .u64 r4, .int .u64 r5, .int .u64 r6, .int .u64 r7, .int .u64 r8, .int .u64 r9, .int .u64 r10, .int .u64 r11, .int .u64 r12]) ∧ Below w.heap.size w w' := by
  unfold Plus.f at h
  split at h
  · rename_i hb
    obtain ⟨V, hV, rfl, rfl, rfl, rfl, rfl, rfl, rfl, rfl, rfl, rfl, rfl, rfl⟩ := of_digits hb.1
    obtain ⟨U, hU, rfl, rfl, rfl, rfl, rfl, rfl, rfl, rfl, rfl, rfl, rfl, rfl⟩ := of_digits hb.2
    rw [hV, hU] at h
    obtain ⟨rfl, rfl, rfl, rfl, rfl, rfl, rfl, rfl, rfl, rfl, rfl, rfl⟩ := of_tup (Option.some.inj h)
    exact Plus_any V U w
  · cases h
theorem Plus_f (V U : Int) : Plus.f (dg V 0) (dg V 1) (dg V 2) (dg V 3) (dg V 4) (dg V 5) (dg V 6) (dg V 7) (dg V 8) (dg V 9) (dg V 10) (dg V 11) (dg U 0) (dg U 1) (dg U 2) (dg U 3) (dg U 4) (dg U 5) (dg U 6) (dg U 7) (dg U 8) (dg U 9) (dg U 10) (dg U 11) = some (tup (V + U)) := by
  unfold Plus.f
  rw [if_pos ⟨bnd_dg V, bnd_dg U⟩, lval_dg, lval_dg]
  congr 1
  unfold tup dg
  simp only [show (65536 : Int) ^ 0 = 1 from by decide, show (65536 : Int) ^ 1 = 65536 from by decide, show (65536 : Int) ^ 2 = 4294967296 from by decide, show (65536 : Int) ^ 3 = 281474976710656 from by decide, show (65536 : Int) ^ 4 = 18446744073709551616 from by decide, show (65536 : Int) ^ 5 = 1208925819614629174706176 from by decide, show (65536 : Int) ^ 6 = 79228162514264337593543950336 from by decide, show (65536 : Int) ^ 7 = 5192296858534827628530496329220096 from by decide, show (65536 : Int) ^ 8 = 340282366920938463463374607431768211456 from by decide, show (65536 : Int) ^ 9 = 22300745198530623141535718272648361505980416 from by decide, show (65536 : Int) ^ 10 = 1461501637330902918203684832716283019655932542976 from by decide, show (65536 : Int) ^ 11 = 95780971304118053647396689196894323976171195136475136 from by decide]
  congr 1
  · omega
  congr 1
  · omega
  congr 1
  · omega
  congr 1
  · omega
  congr 1
  · omega
  congr 1
  · omega
  congr 1
  · omega
  congr 1
  · omega
  congr 1
  · omega
  congr 1
  · omega
  congr 1
  · omega
  omega
def digA (h l : Int) : Nat → Array Value
  | 0 => #[.int .u64 0, .int .u64 0, .int .u64 0, .int .u64 0, .int .u64 0, .int .u64 0, .int .u64 0, .int .u64 0, .int .u64 0, .int .u64 0, .int .u64 0, .int .u64 0]
  | 1 => #[.int .u64 (l % 65536), .int .u64 0, .int .u64 0, .int .u64 0, .int .u64 (h % 65536), .int .u64 0, .int .u64 0, .int .u64 0, .int .u64 0, .int .u64 0, .int .u64 0, .int .u64 0]
  | 2 => #[.int .u64 (l % 65536), .int .u64 (l / 65536 % 65536), .int .u64 0, .int .u64 0, .int .u64 (h % 65536), .int .u64 (h / 65536 % 65536), .int .u64 0, .int .u64 0, .int .u64 0, .int .u64 0, .int .u64 0, .int .u64 0]
  | 3 => #[.int .u64 (l % 65536), .int .u64 (l / 65536 % 65536), .int .u64 (l / 4294967296 % 65536), .int .u64 0, .int .u64 (h % 65536), .int .u64 (h / 65536 % 65536), .int .u64 (h / 4294967296 % 65536), .int .u64 0, .int .u64 0, .int .u64 0, .int .u64 0, .int .u64 0]
  | 4 => #[.int .u64 (l % 65536), .int .u64 (l / 65536 % 65536), .int .u64 (l / 4294967296 % 65536), .int .u64 (l / 281474976710656 % 65536), .int .u64 (h % 65536), .int .u64 (h / 65536 % 65536), .int .u64 (h / 4294967296 % 65536), .int .u64 (h / 281474976710656 % 65536), .int .u64 0, .int .u64 0, .int .u64 0, .int .u64 0]
  | _ => #[]
def digB (h l : Int) : Nat → Array Value
  | 0 => #[.int .u64 0, .int .u64 0, .int .u64 0, .int .u64 0, .int .u64 0, .int .u64 0, .int .u64 0, .int .u64 0, .int .u64 0, .int .u64 0, .int .u64 0, .int .u64 0]
  | 1 => #[.int .u64 (l % 65536), .int .u64 0, .int .u64 0, .int .u64 0, .int .u64 ((IntKind.u64.wrap h).tmod 65536), .int .u64 0, .int .u64 0, .int .u64 0, .int .u64 0, .int .u64 0, .int .u64 0, .int .u64 0]
  | 2 => #[.int .u64 (l % 65536), .int .u64 (l / 65536 % 65536), .int .u64 0, .int .u64 0, .int .u64 ((IntKind.u64.wrap h).tmod 65536), .int .u64 ((IntKind.u64.wrap h / 65536).tmod 65536), .int .u64 0, .int .u64 0, .int .u64 0, .int .u64 0, .int .u64 0, .int .u64 0]
  | 3 => #[.int .u64 (l % 65536), .int .u64 (l / 65536 % 65536), .int .u64 (l / 4294967296 % 65536), .int .u64 0, .int .u64 ((IntKind.u64.wrap h).tmod 65536), .int .u64 ((IntKind.u64.wrap h / 65536).tmod 65536), .int .u64 ((IntKind.u64.wrap h / 4294967296).tmod 65536), .int .u64 0, .int .u64 0, .int .u64 0, .int .u64 0, .int .u64 0]
  | 4 => #[.int .u64 (l % 65536), .int .u64 (l / 65536 % 65536), .int .u64 (l / 4294967296 % 65536), .int .u64 (l / 281474976710656 % 65536), .int .u64 ((IntKind.u64.wrap h).tmod 65536), .int .u64 ((IntKind.u64.wrap h / 65536).tmod 65536), .int .u64 ((IntKind.u64.wrap h / 4294967296).tmod 65536), .int .u64 ((IntKind.u64.wrap h / 281474976710656).tmod 65536), .int .u64 0, .int .u64 0, .int .u64 0, .int .u64 0]
  | _ => #[]
def digN (h l : Int) : Nat → Array Value
  | 0 => #[.int .u64 (l % 65536), .int .u64 (l / 65536 % 65536), .int .u64 (l / 4294967296 % 65536), .int .u64 (l / 281474976710656 % 65536), .int .u64 ((IntKind.u64.wrap h).tmod 65536), .int .u64 ((IntKind.u64.wrap h / 65536).tmod 65536), .int .u64 ((IntKind.u64.wrap h / 4294967296).tmod 65536), .int .u64 ((IntKind.u64.wrap h / 281474976710656).tmod 65536), .int .u64 0, .int .u64 0, .int .u64 0, .int .u64 0]
  | 1 => #[.int .u64 (l % 65536), .int .u64 (l / 65536 % 65536), .int .u64 (l / 4294967296 % 65536), .int .u64 (l / 281474976710656 % 65536), .int .u64 ((IntKind.u64.wrap h).tmod 65536), .int .u64 ((IntKind.u64.wrap h / 65536).tmod 65536), .int .u64 ((IntKind.u64.wrap h / 4294967296).tmod 65536), .int .u64 ((IntKind.u64.wrap h / 281474976710656).tmod 65536), .int .u64 65535, .int .u64 0, .int .u64 0, .int .u64 0]
  | 2 => #[.int .u64 (l % 65536), .int .u64 (l / 65536 % 65536), .int .u64 (l / 4294967296 % 65536), .int .u64 (l / 281474976710656 % 65536), .int .u64 ((IntKind.u64.wrap h).tmod 65536), .int .u64 ((IntKind.u64.wrap h / 65536).tmod 65536), .int .u64 ((IntKind.u64.wrap h / 4294967296).tmod 65536), .int .u64 ((IntKind.u64.wrap h / 281474976710656).tmod 65536), .int .u64 65535, .int .u64 65535, .int .u64 0, .int .u64 0]
  | 3 => #[.int .u64 (l % 65536), .int .u64 (l / 65536 % 65536), .int .u64 (l / 4294967296 % 65536), .int .u64 (l / 281474976710656 % 65536), .int .u64 ((IntKind.u64.wrap h).tmod 65536), .int .u64 ((IntKind.u64.wrap h / 65536).tmod 65536), .int .u64 ((IntKind.u64.wrap h / 4294967296).tmod 65536), .int .u64 ((IntKind.u64.wrap h / 281474976710656).tmod 65536), .int .u64 65535, .int .u64 65535, .int .u64 65535, .int .u64 0]
  | 4 => #[.int .u64 (l % 65536), .int .u64 (l / 65536 % 65536), .int .u64 (l / 4294967296 % 65536), .int .u64 (l / 281474976710656 % 65536), .int .u64 ((IntKind.u64.wrap h).tmod 65536), .int .u64 ((IntKind.u64.wrap h / 65536).tmod 65536), .int .u64 ((IntKind.u64.wrap h / 4294967296).tmod 65536), .int .u64 ((IntKind.u64.wrap h / 281474976710656).tmod 65536), .int .u64 65535, .int .u64 65535, .int .u64 65535, .int .u64 65535]
  | _ => #[]
theorem dig_end0 (h l : Int) (bh : -9223372036854775808 ≤ h ∧ h ≤ 9223372036854775807) (bl : 0 ≤ l ∧ l ≤ 18446744073709551615) (hs : 0 ≤ h) : digA h l 4 = longA (h * 18446744073709551616 + l) := by
  have e0 : (l % 65536) = dg (h * 18446744073709551616 + l) 0 := by
    unfold dg
    simp only [show (65536 : Int) ^ 0 = 1 from by decide]
    omega
  have e1 : (l / 65536 % 65536) = dg (h * 18446744073709551616 + l) 1 := by
    unfold dg
    simp only [show (65536 : Int) ^ 1 = 65536 from by decide]
    omega
  have e2 : (l / 4294967296 % 65536) = dg (h * 18446744073709551616 + l) 2 := by
    unfold dg
    simp only [show (65536 : Int) ^ 2 = 4294967296 from by decide]
    omega
  have e3 : (l / 281474976710656 % 65536) = dg (h * 18446744073709551616 + l) 3 := by
    unfold dg
    simp only [show (65536 : Int) ^ 3 = 281474976710656 from by decide]
    omega
  have e4 : (h % 65536) = dg (h * 18446744073709551616 + l) 4 := by
    unfold dg
    simp only [show (65536 : Int) ^ 4 = 18446744073709551616 from by decide]
    omega
  have e5 : (h / 65536 % 65536) = dg (h * 18446744073709551616 + l) 5 := by
    unfold dg
    simp only [show (65536 : Int) ^ 5 = 1208925819614629174706176 from by decide]
    omega
  have e6 : (h / 4294967296 % 65536) = dg (h * 18446744073709551616 + l) 6 := by
    unfold dg
    simp only [show (65536 : Int) ^ 6 = 79228162514264337593543950336 from by decide]
    omega
  have e7 : (h / 281474976710656 % 65536) = dg (h * 18446744073709551616 + l) 7 := by
    unfold dg
    simp only [show (65536 : Int) ^ 7 = 5192296858534827628530496329220096 from by decide]
    omega
  have e8 : (0 : Int) = dg (h * 18446744073709551616 + l) 8 := by
    unfold dg
    simp only [show (65536 : Int) ^ 8 = 340282366920938463463374607431768211456 from by decide]
    omega
  have e9 : (0 : Int) = dg (h * 18446744073709551616 + l) 9 := by
    unfold dg
    simp only [show (65536 : Int) ^ 9 = 22300745198530623141535718272648361505980416 from by decide]
    omega
  have e10 : (0 : Int) = dg (h * 18446744073709551616 + l) 10 := by
    unfold dg
    simp only [show (65536 : Int) ^ 10 = 1461501637330902918203684832716283019655932542976 from by decide]
    omega
  have e11 : (0 : Int) = dg (h * 18446744073709551616 + l) 11 := by
    unfold dg
    simp only [show (65536 : Int) ^ 11 = 95780971304118053647396689196894323976171195136475136 from by decide]
    omega
  simp only [digA, longA]
  rw [← e0, ← e1, ← e2, ← e3, ← e4, ← e5, ← e6, ← e7, ← e8, ← e9, ← e10, ← e11]
theorem dig_end1 (h l : Int) (bh : -9223372036854775808 ≤ h ∧ h ≤ 9223372036854775807) (bl : 0 ≤ l ∧ l ≤ 18446744073709551615) (hs : h < 0) : digN h l 4 = longA (h * 18446744073709551616 + l) := by
  have e0 : (l % 65536) = dg (h * 18446744073709551616 + l) 0 := by
    unfold dg
    simp only [show (65536 : Int) ^ 0 = 1 from by decide]
    omega
  have e1 : (l / 65536 % 65536) = dg (h * 18446744073709551616 + l) 1 := by
    unfold dg
    simp only [show (65536 : Int) ^ 1 = 65536 from by decide]
    omega
  have e2 : (l / 4294967296 % 65536) = dg (h * 18446744073709551616 + l) 2 := by
    unfold dg
    simp only [show (65536 : Int) ^ 2 = 4294967296 from by decide]
    omega
  have e3 : (l / 281474976710656 % 65536) = dg (h * 18446744073709551616 + l) 3 := by
    unfold dg
    simp only [show (65536 : Int) ^ 3 = 281474976710656 from by decide]
    omega
  have e4 : ((IntKind.u64.wrap h).tmod 65536) = dg (h * 18446744073709551616 + l) 4 := by
    unfold dg
    simp only [show (65536 : Int) ^ 4 = 18446744073709551616 from by decide]
    rw [IntKind.wrap_u64, Int.tmod_eq_emod_of_nonneg (by omega)]
    omega
  have e5 : ((IntKind.u64.wrap h / 65536).tmod 65536) = dg (h * 18446744073709551616 + l) 5 := by
    unfold dg
    simp only [show (65536 : Int) ^ 5 = 1208925819614629174706176 from by decide]
    rw [IntKind.wrap_u64, Int.tmod_eq_emod_of_nonneg (by omega)]
    omega
  have e6 : ((IntKind.u64.wrap h / 4294967296).tmod 65536) = dg (h * 18446744073709551616 + l) 6 := by
    unfold dg
    simp only [show (65536 : Int) ^ 6 = 79228162514264337593543950336 from by decide]
    rw [IntKind.wrap_u64, Int.tmod_eq_emod_of_nonneg (by omega)]
    omega
  have e7 : ((IntKind.u64.wrap h / 281474976710656).tmod 65536) = dg (h * 18446744073709551616 + l) 7 := by
    unfold dg
    simp only [show (65536 : Int) ^ 7 = 5192296858534827628530496329220096 from by decide]
    rw [IntKind.wrap_u64, Int.tmod_eq_emod_of_nonneg (by omega)]
    omega
  have e8 : (65535 : Int) = dg (h * 18446744073709551616 + l) 8 := by
    unfold dg
    simp only [show (65536 : Int) ^ 8 = 340282366920938463463374607431768211456 from by decide]
    omega
  have e9 : (65535 : Int) = dg (h * 18446744073709551616 + l) 9 := by
    unfold dg
    simp only [show (65536 : Int) ^ 9 = 22300745198530623141535718272648361505980416 from by decide]
    omega
  have e10 : (65535 : Int) = dg (h * 18446744073709551616 + l) 10 := by
    unfold dg
    simp only [show (65536 : Int) ^ 10 = 1461501637330902918203684832716283019655932542976 from by decide]
    omega
  have e11 : (65535 : Int) = dg (h * 18446744073709551616 + l) 11 := by
    unfold dg
    simp only [show (65536 : Int) ^ 11 = 95780971304118053647396689196894323976171195136475136 from by decide]
    omega
  simp only [digN, longA]
  rw [← e0, ← e1, ← e2, ← e3, ← e4, ← e5, ← e6, ← e7, ← e8, ← e9, ← e10, ← e11]
set_option maxHeartbeats 4000000 in
set_option maxRecDepth 100000 in
theorem Digits_pos (h l : Int) (w : World) (bh : -9223372036854775808 ≤ h ∧ h ≤ 9223372036854775807) (bl : 0 ≤ l ∧ l ≤ 18446744073709551615) (hs : 0 ≤ h) :
    Calls Try.prog 36 #[.agg #[.int .i64 h, .int .u64 l]] w fun e w' => e = .returned (.agg (longA (h * 18446744073709551616 + l))) ∧ Below w.heap.size w w' := by
  have HE := Lib.hid (dig_end0 h l bh bl hs)
  obtain ⟨bh1, bh2⟩ := bh
  obtain ⟨bl1, bl2⟩ := bl
  have hd : decide (h < 0) = false := by simpa using hs
  go_enter Try.func36, Try.ntmps36
  go_wp2
  go_loopw [4] (fun i wr => ∃ k : Nat, k ≤ 4 ∧ i = .int .i64 k ∧ wr = ((w.alloc (.cells #[.int .i64 h, .int .u64 l] 26)).alloc (.cells zeroA 54)).alloc (.cells (digA h l k) 54)) (fun i _ => 4 - (intOf i).toNat)
  case atStart => exact ⟨0, by omega, rfl, rfl⟩
  case round =>
    obtain ⟨k, hk, rfl, rfl⟩ := hrel
    rcases (by omega : k = 0 ∨ k = 1 ∨ k = 2 ∨ k = 3 ∨ k = 4) with rfl | rfl | rfl | rfl | rfl
    · simp only [digA, zeroA]
      go_wp2
      go_roundw
      case rel => exact ⟨1, by omega, rfl, rfl⟩
      case measure => simp [intOf]
    · simp only [digA, zeroA]
      go_wp2
      go_roundw
      case rel => exact ⟨2, by omega, rfl, rfl⟩
      case measure => simp [intOf]
    · simp only [digA, zeroA]
      go_wp2
      go_roundw
      case rel => exact ⟨3, by omega, rfl, rfl⟩
      case measure => simp [intOf]
    · simp only [digA, zeroA]
      go_wp2
      go_roundw
      case rel => exact ⟨4, by omega, rfl, rfl⟩
      case measure => simp [intOf]
    · simp only [digA, zeroA]
      go_wp2
      exact bodyPost_ret (v := .agg (digA h l 4)) (by simp [results, Try.results36, go_sem, digA]) rfl ⟨by rw [HE.out], by repeat (with_reducible first | apply pw_below_drewN | apply below_alloc | exact Below.refl _ _ | (refine below_set ?_ (by omega)))⟩
set_option maxHeartbeats 4000000 in
set_option maxRecDepth 100000 in
theorem Digits_neg (h l : Int) (w : World) (bh : -9223372036854775808 ≤ h ∧ h ≤ 9223372036854775807) (bl : 0 ≤ l ∧ l ≤ 18446744073709551615) (hs : h < 0) :
    Calls Try.prog 36 #[.agg #[.int .i64 h, .int .u64 l]] w fun e w' => e = .returned (.agg (longA (h * 18446744073709551616 + l))) ∧ Below w.heap.size w w' := by
  have HE := Lib.hid (dig_end1 h l bh bl hs)
  obtain ⟨bh1, bh2⟩ := bh
  obtain ⟨bl1, bl2⟩ := bl
  have hd : decide (h < 0) = true := by simpa using hs
  go_enter Try.func36, Try.ntmps36
  go_wp2
  go_loopw [4] (fun i wr => ∃ k : Nat, k ≤ 4 ∧ i = .int .i64 k ∧ wr = ((w.alloc (.cells #[.int .i64 h, .int .u64 l] 26)).alloc (.cells zeroA 54)).alloc (.cells (digB h l k) 54)) (fun i _ => 4 - (intOf i).toNat)
  case atStart => exact ⟨0, by omega, rfl, rfl⟩
  case round =>
    obtain ⟨k, hk, rfl, rfl⟩ := hrel
    rcases (by omega : k = 0 ∨ k = 1 ∨ k = 2 ∨ k = 3 ∨ k = 4) with rfl | rfl | rfl | rfl | rfl
    · simp only [digB, zeroA]
      go_wp2
      go_roundw
      case rel => exact ⟨1, by omega, rfl, rfl⟩
      case measure => simp [intOf]
    · simp only [digB, zeroA]
      go_wp2
      go_roundw
      case rel => exact ⟨2, by omega, rfl, rfl⟩
      case measure => simp [intOf]
    · simp only [digB, zeroA]
      go_wp2
      go_roundw
      case rel => exact ⟨3, by omega, rfl, rfl⟩
      case measure => simp [intOf]
    · simp only [digB, zeroA]
      go_wp2
      go_roundw
      case rel => exact ⟨4, by omega, rfl, rfl⟩
      case measure => simp [intOf]
    · simp only [digB, zeroA]
      go_wp2
      go_loopw [5] (fun i wr => ∃ k : Nat, k ≤ 4 ∧ i = .int .i64 (8 + k) ∧ wr = ((w.alloc (.cells #[.int .i64 h, .int .u64 l] 26)).alloc (.cells zeroA 54)).alloc (.cells (digN h l k) 54)) (fun i _ => 12 - (intOf i).toNat)
      case atStart => exact ⟨0, by omega, rfl, rfl⟩
      case round =>
        obtain ⟨k, hk, rfl, rfl⟩ := hrel
        rcases (by omega : k = 0 ∨ k = 1 ∨ k = 2 ∨ k = 3 ∨ k = 4) with rfl | rfl | rfl | rfl | rfl
        · simp only [digN, zeroA]
          go_wp2
          go_roundw
          case rel => exact ⟨1, by omega, rfl, rfl⟩
          case measure => simp [intOf]
        · simp only [digN, zeroA]
          go_wp2
          go_roundw
          case rel => exact ⟨2, by omega, rfl, rfl⟩
          case measure => simp [intOf]
        · simp only [digN, zeroA]
          go_wp2
          go_roundw
          case rel => exact ⟨3, by omega, rfl, rfl⟩
          case measure => simp [intOf]
        · simp only [digN, zeroA]
          go_wp2
          go_roundw
          case rel => exact ⟨4, by omega, rfl, rfl⟩
          case measure => simp [intOf]
        · simp only [digN, zeroA]
          go_wp2
          exact bodyPost_ret (v := .agg (digN h l 4)) (by simp [results, Try.results36, go_sem, digN]) rfl ⟨by rw [HE.out], by repeat (with_reducible first | apply pw_below_drewN | apply below_alloc | exact Below.refl _ _ | (refine below_set ?_ (by omega)))⟩
def Digits.f (a0_0 a0_1 : Int) : Option (Int × Int × Int × Int × Int × Int × Int × Int × Int × Int × Int × Int) := if (-9223372036854775808 ≤ a0_0 ∧ a0_0 ≤ 9223372036854775807) ∧ (0 ≤ a0_1 ∧ a0_1 ≤ 18446744073709551615) then some (tup (a0_0 * 18446744073709551616 + a0_1)) else none
theorem Digits.calls (a0_0 a0_1 r1 r2 r3 r4 r5 r6 r7 r8 r9 r10 r11 r12 : Int) (w : World) (h : Digits.f a0_0 a0_1 = some (r1, r2, r3, r4, r5, r6, r7, r8, r9, r10, r11, r12)) :
    Calls Try.prog 36 #[.agg #[.int .i64 a0_0, .int .u64 a0_1]] w fun e w' => e = .returned (.agg #[.int .u64 r1, .int .u64 r2, .int .u64 r3, .int .u64 r4, .int .u64 r5, .int .u64 r6, .int .u64 r7, .int .u64 r8, .int .u64 r9, .int .u64 r10, .int .u64 r11, .int .u64 r12]) ∧ Below w.heap.size w w' := by
  unfold Digits.f at h
  split at h
  · rename_i hb
    obtain ⟨rfl, rfl, rfl, rfl, rfl, rfl, rfl, rfl, rfl, rfl, rfl, rfl⟩ := of_tup (Option.some.inj h)
    rcases Int.lt_or_le a0_0 0 with hs | hs
    · exact Digits_neg _ _ w hb.1 hb.2 hs
    · exact Digits_pos _ _ w hb.1 hb.2 hs
  · cases h
theorem dg_not (V : Int) (j : Nat) : 65535 - dg V j = dg (-V - 1) j := by
  unfold dg
  have h := pow_pos' j
  generalize (65536 : Int) ^ j = B at *
  have e : (-V - 1) / B = -(V / B) - 1 := by
    have h1 := Int.mul_ediv_add_emod V B
    have h2 := Int.emod_nonneg V (show B ≠ 0 by omega)
    have h3 := Int.emod_lt_of_pos V h
    have h4 : -V - 1 = (B - 1 - V % B) + B * (-(V / B) - 1) := by rw [Int.mul_sub, Int.mul_neg]; omega
    rw [h4, Int.add_mul_ediv_left _ _ (by omega), Int.ediv_eq_zero_of_lt (by omega) (by omega)]
    omega
  rw [e]
  omega
def turnA (V : Int) : Nat → Array Value
  | 0 => #[.int .u64 (dg V 0), .int .u64 (dg V 1), .int .u64 (dg V 2), .int .u64 (dg V 3), .int .u64 (dg V 4), .int .u64 (dg V 5), .int .u64 (dg V 6), .int .u64 (dg V 7), .int .u64 (dg V 8), .int .u64 (dg V 9), .int .u64 (dg V 10), .int .u64 (dg V 11)]
  | 1 => #[.int .u64 (dg (-V - 1) 0), .int .u64 (dg V 1), .int .u64 (dg V 2), .int .u64 (dg V 3), .int .u64 (dg V 4), .int .u64 (dg V 5), .int .u64 (dg V 6), .int .u64 (dg V 7), .int .u64 (dg V 8), .int .u64 (dg V 9), .int .u64 (dg V 10), .int .u64 (dg V 11)]
  | 2 => #[.int .u64 (dg (-V - 1) 0), .int .u64 (dg (-V - 1) 1), .int .u64 (dg V 2), .int .u64 (dg V 3), .int .u64 (dg V 4), .int .u64 (dg V 5), .int .u64 (dg V 6), .int .u64 (dg V 7), .int .u64 (dg V 8), .int .u64 (dg V 9), .int .u64 (dg V 10), .int .u64 (dg V 11)]
  | 3 => #[.int .u64 (dg (-V - 1) 0), .int .u64 (dg (-V - 1) 1), .int .u64 (dg (-V - 1) 2), .int .u64 (dg V 3), .int .u64 (dg V 4), .int .u64 (dg V 5), .int .u64 (dg V 6), .int .u64 (dg V 7), .int .u64 (dg V 8), .int .u64 (dg V 9), .int .u64 (dg V 10), .int .u64 (dg V 11)]
  | 4 => #[.int .u64 (dg (-V - 1) 0), .int .u64 (dg (-V - 1) 1), .int .u64 (dg (-V - 1) 2), .int .u64 (dg (-V - 1) 3), .int .u64 (dg V 4), .int .u64 (dg V 5), .int .u64 (dg V 6), .int .u64 (dg V 7), .int .u64 (dg V 8), .int .u64 (dg V 9), .int .u64 (dg V 10), .int .u64 (dg V 11)]
  | 5 => #[.int .u64 (dg (-V - 1) 0), .int .u64 (dg (-V - 1) 1), .int .u64 (dg (-V - 1) 2), .int .u64 (dg (-V - 1) 3), .int .u64 (dg (-V - 1) 4), .int .u64 (dg V 5), .int .u64 (dg V 6), .int .u64 (dg V 7), .int .u64 (dg V 8), .int .u64 (dg V 9), .int .u64 (dg V 10), .int .u64 (dg V 11)]
  | 6 => #[.int .u64 (dg (-V - 1) 0), .int .u64 (dg (-V - 1) 1), .int .u64 (dg (-V - 1) 2), .int .u64 (dg (-V - 1) 3), .int .u64 (dg (-V - 1) 4), .int .u64 (dg (-V - 1) 5), .int .u64 (dg V 6), .int .u64 (dg V 7), .int .u64 (dg V 8), .int .u64 (dg V 9), .int .u64 (dg V 10), .int .u64 (dg V 11)]
  | 7 => #[.int .u64 (dg (-V - 1) 0), .int .u64 (dg (-V - 1) 1), .int .u64 (dg (-V - 1) 2), .int .u64 (dg (-V - 1) 3), .int .u64 (dg (-V - 1) 4), .int .u64 (dg (-V - 1) 5), .int .u64 (dg (-V - 1) 6), .int .u64 (dg V 7), .int .u64 (dg V 8), .int .u64 (dg V 9), .int .u64 (dg V 10), .int .u64 (dg V 11)]
  | 8 => #[.int .u64 (dg (-V - 1) 0), .int .u64 (dg (-V - 1) 1), .int .u64 (dg (-V - 1) 2), .int .u64 (dg (-V - 1) 3), .int .u64 (dg (-V - 1) 4), .int .u64 (dg (-V - 1) 5), .int .u64 (dg (-V - 1) 6), .int .u64 (dg (-V - 1) 7), .int .u64 (dg V 8), .int .u64 (dg V 9), .int .u64 (dg V 10), .int .u64 (dg V 11)]
  | 9 => #[.int .u64 (dg (-V - 1) 0), .int .u64 (dg (-V - 1) 1), .int .u64 (dg (-V - 1) 2), .int .u64 (dg (-V - 1) 3), .int .u64 (dg (-V - 1) 4), .int .u64 (dg (-V - 1) 5), .int .u64 (dg (-V - 1) 6), .int .u64 (dg (-V - 1) 7), .int .u64 (dg (-V - 1) 8), .int .u64 (dg V 9), .int .u64 (dg V 10), .int .u64 (dg V 11)]
  | 10 => #[.int .u64 (dg (-V - 1) 0), .int .u64 (dg (-V - 1) 1), .int .u64 (dg (-V - 1) 2), .int .u64 (dg (-V - 1) 3), .int .u64 (dg (-V - 1) 4), .int .u64 (dg (-V - 1) 5), .int .u64 (dg (-V - 1) 6), .int .u64 (dg (-V - 1) 7), .int .u64 (dg (-V - 1) 8), .int .u64 (dg (-V - 1) 9), .int .u64 (dg V 10), .int .u64 (dg V 11)]
  | 11 => #[.int .u64 (dg (-V - 1) 0), .int .u64 (dg (-V - 1) 1), .int .u64 (dg (-V - 1) 2), .int .u64 (dg (-V - 1) 3), .int .u64 (dg (-V - 1) 4), .int .u64 (dg (-V - 1) 5), .int .u64 (dg (-V - 1) 6), .int .u64 (dg (-V - 1) 7), .int .u64 (dg (-V - 1) 8), .int .u64 (dg (-V - 1) 9), .int .u64 (dg (-V - 1) 10), .int .u64 (dg V 11)]
  | 12 => #[.int .u64 (dg (-V - 1) 0), .int .u64 (dg (-V - 1) 1), .int .u64 (dg (-V - 1) 2), .int .u64 (dg (-V - 1) 3), .int .u64 (dg (-V - 1) 4), .int .u64 (dg (-V - 1) 5), .int .u64 (dg (-V - 1) 6), .int .u64 (dg (-V - 1) 7), .int .u64 (dg (-V - 1) 8), .int .u64 (dg (-V - 1) 9), .int .u64 (dg (-V - 1) 10), .int .u64 (dg (-V - 1) 11)]
  | _ => #[]
theorem oneA : (#[.int .u64 1, .int .u64 0, .int .u64 0, .int .u64 0, .int .u64 0, .int .u64 0, .int .u64 0, .int .u64 0, .int .u64 0, .int .u64 0, .int .u64 0, .int .u64 0] : Array Value) = longA 1 := by
  unfold longA dg
  simp
theorem Plus_one (V : Int) (w : World) : Calls Try.prog 35 #[.agg #[.int .u64 (dg (-V - 1) 0), .int .u64 (dg (-V - 1) 1), .int .u64 (dg (-V - 1) 2), .int .u64 (dg (-V - 1) 3), .int .u64 (dg (-V - 1) 4), .int .u64 (dg (-V - 1) 5), .int .u64 (dg (-V - 1) 6), .int .u64 (dg (-V - 1) 7), .int .u64 (dg (-V - 1) 8), .int .u64 (dg (-V - 1) 9), .int .u64 (dg (-V - 1) 10), .int .u64 (dg (-V - 1) 11)], .agg #[.int .u64 1, .int .u64 0, .int .u64 0, .int .u64 0, .int .u64 0, .int .u64 0, .int .u64 0, .int .u64 0, .int .u64 0, .int .u64 0, .int .u64 0, .int .u64 0]] w fun e w' => e = .returned (.agg #[.int .u64 (dg (-V) 0), .int .u64 (dg (-V) 1), .int .u64 (dg (-V) 2), .int .u64 (dg (-V) 3), .int .u64 (dg (-V) 4), .int .u64 (dg (-V) 5), .int .u64 (dg (-V) 6), .int .u64 (dg (-V) 7), .int .u64 (dg (-V) 8), .int .u64 (dg (-V) 9), .int .u64 (dg (-V) 10), .int .u64 (dg (-V) 11)]) ∧ Below w.heap.size w w' := by
  have h := Plus_any (-V - 1) 1 w
  rw [show -V - 1 + 1 = -V from by omega, ← oneA] at h
  exact h
set_option maxHeartbeats 4000000 in
set_option maxRecDepth 100000 in
theorem Turned_any (V : Int) (w : World) :
    Calls Try.prog 38 #[.agg (longA V)] w fun e w' => e = .returned (.agg (longA (-V))) ∧ Below w.heap.size w w' := by
  have HP := fun W => Lib.hid (Plus_one V W)
  obtain ⟨hv0a, hv0b⟩ := dg_in V 0
  obtain ⟨hv1a, hv1b⟩ := dg_in V 1
  obtain ⟨hv2a, hv2b⟩ := dg_in V 2
  obtain ⟨hv3a, hv3b⟩ := dg_in V 3
  obtain ⟨hv4a, hv4b⟩ := dg_in V 4
  obtain ⟨hv5a, hv5b⟩ := dg_in V 5
  obtain ⟨hv6a, hv6b⟩ := dg_in V 6
  obtain ⟨hv7a, hv7b⟩ := dg_in V 7
  obtain ⟨hv8a, hv8b⟩ := dg_in V 8
  obtain ⟨hv9a, hv9b⟩ := dg_in V 9
  obtain ⟨hv10a, hv10b⟩ := dg_in V 10
  obtain ⟨hv11a, hv11b⟩ := dg_in V 11
  simp only [longA]
  go_enter Try.func38, Try.ntmps38
  go_wp2_with fail
  go_loopw [3] (fun i wr => ∃ k : Nat, k ≤ 12 ∧ i = .int .i64 k ∧ wr = (w.alloc (.cells (turnA V k) 54)).alloc (.cells zeroA 54)) (fun i _ => 12 - (intOf i).toNat)
  case atStart => exact ⟨0, by omega, rfl, rfl⟩
  case round =>
    obtain ⟨k, hk, rfl, rfl⟩ := hrel
    rcases (by omega : k = 0 ∨ k = 1 ∨ k = 2 ∨ k = 3 ∨ k = 4 ∨ k = 5 ∨ k = 6 ∨ k = 7 ∨ k = 8 ∨ k = 9 ∨ k = 10 ∨ k = 11 ∨ k = 12) with rfl | rfl | rfl | rfl | rfl | rfl | rfl | rfl | rfl | rfl | rfl | rfl | rfl
    · simp only [turnA, zeroA]
      go_wp2_with fail
      go_roundw
      case rel => exact ⟨1, by omega, rfl, by simp only [turnA, ← dg_not]⟩
      case measure => simp [intOf]
    · simp only [turnA, zeroA]
      go_wp2_with fail
      go_roundw
      case rel => exact ⟨2, by omega, rfl, by simp only [turnA, ← dg_not]⟩
      case measure => simp [intOf]
    · simp only [turnA, zeroA]
      go_wp2_with fail
      go_roundw
      case rel => exact ⟨3, by omega, rfl, by simp only [turnA, ← dg_not]⟩
      case measure => simp [intOf]
    · simp only [turnA, zeroA]
      go_wp2_with fail
      go_roundw
      case rel => exact ⟨4, by omega, rfl, by simp only [turnA, ← dg_not]⟩
      case measure => simp [intOf]
    · simp only [turnA, zeroA]
      go_wp2_with fail
      go_roundw
      case rel => exact ⟨5, by omega, rfl, by simp only [turnA, ← dg_not]⟩
      case measure => simp [intOf]
    · simp only [turnA, zeroA]
      go_wp2_with fail
      go_roundw
      case rel => exact ⟨6, by omega, rfl, by simp only [turnA, ← dg_not]⟩
      case measure => simp [intOf]
    · simp only [turnA, zeroA]
      go_wp2_with fail
      go_roundw
      case rel => exact ⟨7, by omega, rfl, by simp only [turnA, ← dg_not]⟩
      case measure => simp [intOf]
    · simp only [turnA, zeroA]
      go_wp2_with fail
      go_roundw
      case rel => exact ⟨8, by omega, rfl, by simp only [turnA, ← dg_not]⟩
      case measure => simp [intOf]
    · simp only [turnA, zeroA]
      go_wp2_with fail
      go_roundw
      case rel => exact ⟨9, by omega, rfl, by simp only [turnA, ← dg_not]⟩
      case measure => simp [intOf]
    · simp only [turnA, zeroA]
      go_wp2_with fail
      go_roundw
      case rel => exact ⟨10, by omega, rfl, by simp only [turnA, ← dg_not]⟩
      case measure => simp [intOf]
    · simp only [turnA, zeroA]
      go_wp2_with fail
      go_roundw
      case rel => exact ⟨11, by omega, rfl, by simp only [turnA, ← dg_not]⟩
      case measure => simp [intOf]
    · simp only [turnA, zeroA]
      go_wp2_with fail
      go_roundw
      case rel => exact ⟨12, by omega, rfl, by simp only [turnA, ← dg_not]⟩
      case measure => simp [intOf]
    · simp only [turnA, zeroA]
      go_wp2_with (go_at_call 35; (refine ((HP _).out).mono ?_); rintro e w1 ⟨rfl, hb⟩; obtain ⟨hc1, hf1⟩ := bcell hb)
      exact bodyPost_ret (v := .agg (longA (-V))) (by simp [results, Try.results38, go_sem, longA, hc1]) rfl ⟨rfl, by (repeat (with_reducible refine below_set ?_ (by omega))); exact below_then (by repeat (with_reducible first | apply below_alloc | exact Below.refl _ _)) (by simp; try omega) hb⟩
def Turned.f (a0 a1 a2 a3 a4 a5 a6 a7 a8 a9 a10 a11 : Int) : Option (Int × Int × Int × Int × Int × Int × Int × Int × Int × Int × Int × Int) := if bnd a0 a1 a2 a3 a4 a5 a6 a7 a8 a9 a10 a11 then some (tup (-lval a0 a1 a2 a3 a4 a5 a6 a7 a8 a9 a10 a11)) else none
theorem Turned.calls (a0 a1 a2 a3 a4 a5 a6 a7 a8 a9 a10 a11 r1 r2 r3 r4 r5 r6 r7 r8 r9 r10 r11 r12 : Int) (w : World) (h : Turned.f a0 a1 a2 a3 a4 a5 a6 a7 a8 a9 a10 a11 = some (r1, r2, r3, r4, r5, r6, r7, r8, r9, r10, r11, r12)) :
    Calls Try.prog 38 #[.agg #[.int .u64 a0, .int .u64 a1, .int .u64 a2, .int .u64 a3, .int .u64 a4, .int .u64 a5, .int .u64 a6, .int .u64 a7, .int .u64 a8, .int .u64 a9, .int .u64 a10, .int .u64 a11]] w fun e w' => e = .returned (.agg #[.int .u64 r1, .int .u64 r2, .int .u64 r3, .int .u64 r4, .int .u64 r5, .int .u64 r6, .int .u64 r7, .int .u64 r8, .int .u64 r9, .int .u64 r10, .int .u64 r11, .int .u64 r12]) ∧ Below w.heap.size w w' := by
  unfold Turned.f at h
  split at h
  · rename_i hb
    obtain ⟨V, hV, rfl, rfl, rfl, rfl, rfl, rfl, rfl, rfl, rfl, rfl, rfl, rfl⟩ := of_digits hb
    rw [hV] at h
    obtain ⟨rfl, rfl, rfl, rfl, rfl, rfl, rfl, rfl, rfl, rfl, rfl, rfl⟩ := of_tup (Option.some.inj h)
    exact Turned_any V w
  · cases h
theorem Turned_f (V : Int) : Turned.f (dg V 0) (dg V 1) (dg V 2) (dg V 3) (dg V 4) (dg V 5) (dg V 6) (dg V 7) (dg V 8) (dg V 9) (dg V 10) (dg V 11) = some (tup (-V)) := by
  unfold Turned.f
  rw [if_pos (bnd_dg V), lval_dg]
  congr 1
  unfold tup dg
  simp only [show (65536 : Int) ^ 0 = 1 from by decide, show (65536 : Int) ^ 1 = 65536 from by decide, show (65536 : Int) ^ 2 = 4294967296 from by decide, show (65536 : Int) ^ 3 = 281474976710656 from by decide, show (65536 : Int) ^ 4 = 18446744073709551616 from by decide, show (65536 : Int) ^ 5 = 1208925819614629174706176 from by decide, show (65536 : Int) ^ 6 = 79228162514264337593543950336 from by decide, show (65536 : Int) ^ 7 = 5192296858534827628530496329220096 from by decide, show (65536 : Int) ^ 8 = 340282366920938463463374607431768211456 from by decide, show (65536 : Int) ^ 9 = 22300745198530623141535718272648361505980416 from by decide, show (65536 : Int) ^ 10 = 1461501637330902918203684832716283019655932542976 from by decide, show (65536 : Int) ^ 11 = 95780971304118053647396689196894323976171195136475136 from by decide]
  congr 1
  · omega
  congr 1
  · omega
  congr 1
  · omega
  congr 1
  · omega
  congr 1
  · omega
  congr 1
  · omega
  congr 1
  · omega
  congr 1
  · omega
  congr 1
  · omega
  congr 1
  · omega
  congr 1
  · omega
  omega
set_option maxRecDepth 100000 in
theorem IsBelow_any (V : Int) (w : World) :
    Calls Try.prog 39 #[.agg (longA V)] w fun e w' => e = .returned (.bool (decide (32768 ≤ dg V 11))) ∧ Below w.heap.size w w' := by
  simp only [longA]
  go_enter Try.func39, Try.ntmps39
  go_wp2
  go_ret
  exact ⟨rfl, by repeat (with_reducible first | apply pw_below_drewN | apply below_alloc | exact Below.refl _ _ | (refine below_set ?_ (by omega)))⟩
def IsBelow.f (a0 a1 a2 a3 a4 a5 a6 a7 a8 a9 a10 a11 : Int) : Option Bool := if bnd a0 a1 a2 a3 a4 a5 a6 a7 a8 a9 a10 a11 then some (decide (32768 ≤ a11)) else none
theorem IsBelow.calls (a0 a1 a2 a3 a4 a5 a6 a7 a8 a9 a10 a11 : Int) (r : Bool) (w : World) (h : IsBelow.f a0 a1 a2 a3 a4 a5 a6 a7 a8 a9 a10 a11 = some r) :
    Calls Try.prog 39 #[.agg #[.int .u64 a0, .int .u64 a1, .int .u64 a2, .int .u64 a3, .int .u64 a4, .int .u64 a5, .int .u64 a6, .int .u64 a7, .int .u64 a8, .int .u64 a9, .int .u64 a10, .int .u64 a11]] w fun e w' => e = .returned (.bool r) ∧ Below w.heap.size w w' := by
  unfold IsBelow.f at h
  split at h
  · rename_i hb
    obtain ⟨V, hV, rfl, rfl, rfl, rfl, rfl, rfl, rfl, rfl, rfl, rfl, rfl, rfl⟩ := of_digits hb
    obtain rfl := Option.some.inj h
    exact IsBelow_any V w
  · cases h
theorem IsBelow_f {V : Int} (h : -3138550867693340381917894711603833208051177722232017256448 ≤ V ∧ V < 3138550867693340381917894711603833208051177722232017256448) : IsBelow.f (dg V 0) (dg V 1) (dg V 2) (dg V 3) (dg V 4) (dg V 5) (dg V 6) (dg V 7) (dg V 8) (dg V 9) (dg V 10) (dg V 11) = some (decide (V < 0)) := by
  unfold IsBelow.f
  rw [if_pos (bnd_dg V)]
  congr 1
  rw [decide_eq_decide]
  unfold dg
  simp only [show (65536 : Int) ^ 11 = 95780971304118053647396689196894323976171195136475136 from by decide]
  omega
def part (V : Int) (s k : Nat) : Int := V / 65536 ^ s % 65536 ^ k
theorem part_0_0 (V : Int) : part V 1 0 * 65536 + dg V 0 = part V 0 1 := by
  unfold part dg
  simp only [show (65536 : Int) ^ 0 = 1 from by decide, show (65536 : Int) ^ 1 = 65536 from by decide]
  omega
theorem part_0_1 (V : Int) : part V 1 1 * 65536 + dg V 0 = part V 0 2 := by
  unfold part dg
  simp only [show (65536 : Int) ^ 0 = 1 from by decide, show (65536 : Int) ^ 1 = 65536 from by decide, show (65536 : Int) ^ 2 = 4294967296 from by decide]
  omega
theorem part_0_2 (V : Int) : part V 1 2 * 65536 + dg V 0 = part V 0 3 := by
  unfold part dg
  simp only [show (65536 : Int) ^ 0 = 1 from by decide, show (65536 : Int) ^ 1 = 65536 from by decide, show (65536 : Int) ^ 2 = 4294967296 from by decide, show (65536 : Int) ^ 3 = 281474976710656 from by decide]
  omega
theorem part_0_3 (V : Int) : part V 1 3 * 65536 + dg V 0 = part V 0 4 := by
  unfold part dg
  simp only [show (65536 : Int) ^ 0 = 1 from by decide, show (65536 : Int) ^ 1 = 65536 from by decide, show (65536 : Int) ^ 3 = 281474976710656 from by decide, show (65536 : Int) ^ 4 = 18446744073709551616 from by decide]
  omega
theorem part_1_0 (V : Int) : part V 2 0 * 65536 + dg V 1 = part V 1 1 := by
  unfold part dg
  simp only [show (65536 : Int) ^ 0 = 1 from by decide, show (65536 : Int) ^ 1 = 65536 from by decide, show (65536 : Int) ^ 2 = 4294967296 from by decide]
  omega
theorem part_1_1 (V : Int) : part V 2 1 * 65536 + dg V 1 = part V 1 2 := by
  unfold part dg
  simp only [show (65536 : Int) ^ 1 = 65536 from by decide, show (65536 : Int) ^ 2 = 4294967296 from by decide]
  omega
theorem part_1_2 (V : Int) : part V 2 2 * 65536 + dg V 1 = part V 1 3 := by
  unfold part dg
  simp only [show (65536 : Int) ^ 1 = 65536 from by decide, show (65536 : Int) ^ 2 = 4294967296 from by decide, show (65536 : Int) ^ 3 = 281474976710656 from by decide]
  omega
theorem part_2_0 (V : Int) : part V 3 0 * 65536 + dg V 2 = part V 2 1 := by
  unfold part dg
  simp only [show (65536 : Int) ^ 0 = 1 from by decide, show (65536 : Int) ^ 1 = 65536 from by decide, show (65536 : Int) ^ 2 = 4294967296 from by decide, show (65536 : Int) ^ 3 = 281474976710656 from by decide]
  omega
theorem part_2_1 (V : Int) : part V 3 1 * 65536 + dg V 2 = part V 2 2 := by
  unfold part dg
  simp only [show (65536 : Int) ^ 1 = 65536 from by decide, show (65536 : Int) ^ 2 = 4294967296 from by decide, show (65536 : Int) ^ 3 = 281474976710656 from by decide]
  omega
theorem part_3_0 (V : Int) : part V 4 0 * 65536 + dg V 3 = part V 3 1 := by
  unfold part dg
  simp only [show (65536 : Int) ^ 0 = 1 from by decide, show (65536 : Int) ^ 1 = 65536 from by decide, show (65536 : Int) ^ 3 = 281474976710656 from by decide, show (65536 : Int) ^ 4 = 18446744073709551616 from by decide]
  omega
theorem part_4_0 (V : Int) : part V 5 0 * 65536 + dg V 4 = part V 4 1 := by
  unfold part dg
  simp only [show (65536 : Int) ^ 0 = 1 from by decide, show (65536 : Int) ^ 1 = 65536 from by decide, show (65536 : Int) ^ 4 = 18446744073709551616 from by decide, show (65536 : Int) ^ 5 = 1208925819614629174706176 from by decide]
  omega
theorem part_4_1 (V : Int) : part V 5 1 * 65536 + dg V 4 = part V 4 2 := by
  unfold part dg
  simp only [show (65536 : Int) ^ 1 = 65536 from by decide, show (65536 : Int) ^ 2 = 4294967296 from by decide, show (65536 : Int) ^ 4 = 18446744073709551616 from by decide, show (65536 : Int) ^ 5 = 1208925819614629174706176 from by decide]
  omega
theorem part_4_2 (V : Int) : part V 5 2 * 65536 + dg V 4 = part V 4 3 := by
  unfold part dg
  simp only [show (65536 : Int) ^ 2 = 4294967296 from by decide, show (65536 : Int) ^ 3 = 281474976710656 from by decide, show (65536 : Int) ^ 4 = 18446744073709551616 from by decide, show (65536 : Int) ^ 5 = 1208925819614629174706176 from by decide]
  omega
theorem part_4_3 (V : Int) : part V 5 3 * 65536 + dg V 4 = part V 4 4 := by
  unfold part dg
  simp only [show (65536 : Int) ^ 3 = 281474976710656 from by decide, show (65536 : Int) ^ 4 = 18446744073709551616 from by decide, show (65536 : Int) ^ 5 = 1208925819614629174706176 from by decide]
  omega
theorem part_5_0 (V : Int) : part V 6 0 * 65536 + dg V 5 = part V 5 1 := by
  unfold part dg
  simp only [show (65536 : Int) ^ 0 = 1 from by decide, show (65536 : Int) ^ 1 = 65536 from by decide, show (65536 : Int) ^ 5 = 1208925819614629174706176 from by decide, show (65536 : Int) ^ 6 = 79228162514264337593543950336 from by decide]
  omega
theorem part_5_1 (V : Int) : part V 6 1 * 65536 + dg V 5 = part V 5 2 := by
  unfold part dg
  simp only [show (65536 : Int) ^ 1 = 65536 from by decide, show (65536 : Int) ^ 2 = 4294967296 from by decide, show (65536 : Int) ^ 5 = 1208925819614629174706176 from by decide, show (65536 : Int) ^ 6 = 79228162514264337593543950336 from by decide]
  omega
theorem part_5_2 (V : Int) : part V 6 2 * 65536 + dg V 5 = part V 5 3 := by
  unfold part dg
  simp only [show (65536 : Int) ^ 2 = 4294967296 from by decide, show (65536 : Int) ^ 3 = 281474976710656 from by decide, show (65536 : Int) ^ 5 = 1208925819614629174706176 from by decide, show (65536 : Int) ^ 6 = 79228162514264337593543950336 from by decide]
  omega
theorem part_6_0 (V : Int) : part V 7 0 * 65536 + dg V 6 = part V 6 1 := by
  unfold part dg
  simp only [show (65536 : Int) ^ 0 = 1 from by decide, show (65536 : Int) ^ 1 = 65536 from by decide, show (65536 : Int) ^ 6 = 79228162514264337593543950336 from by decide, show (65536 : Int) ^ 7 = 5192296858534827628530496329220096 from by decide]
  omega
theorem part_6_1 (V : Int) : part V 7 1 * 65536 + dg V 6 = part V 6 2 := by
  unfold part dg
  simp only [show (65536 : Int) ^ 1 = 65536 from by decide, show (65536 : Int) ^ 2 = 4294967296 from by decide, show (65536 : Int) ^ 6 = 79228162514264337593543950336 from by decide, show (65536 : Int) ^ 7 = 5192296858534827628530496329220096 from by decide]
  omega
theorem part_7_0 (V : Int) : part V 8 0 * 65536 + dg V 7 = part V 7 1 := by
  unfold part dg
  simp only [show (65536 : Int) ^ 0 = 1 from by decide, show (65536 : Int) ^ 1 = 65536 from by decide, show (65536 : Int) ^ 7 = 5192296858534827628530496329220096 from by decide, show (65536 : Int) ^ 8 = 340282366920938463463374607431768211456 from by decide]
  omega
theorem part_in0 (V : Int) (s : Nat) : 0 ≤ part V s 0 ∧ part V s 0 ≤ 0 := by
  unfold part
  simp only [show (65536 : Int) ^ 0 = 1 from by decide]
  omega
theorem part_in1 (V : Int) (s : Nat) : 0 ≤ part V s 1 ∧ part V s 1 ≤ 65535 := by
  unfold part
  simp only [show (65536 : Int) ^ 1 = 65536 from by decide]
  omega
theorem part_in2 (V : Int) (s : Nat) : 0 ≤ part V s 2 ∧ part V s 2 ≤ 4294967295 := by
  unfold part
  simp only [show (65536 : Int) ^ 2 = 4294967296 from by decide]
  omega
theorem part_in3 (V : Int) (s : Nat) : 0 ≤ part V s 3 ∧ part V s 3 ≤ 281474976710655 := by
  unfold part
  simp only [show (65536 : Int) ^ 3 = 281474976710656 from by decide]
  omega
theorem part_in4 (V : Int) (s : Nat) : 0 ≤ part V s 4 ∧ part V s 4 ≤ 18446744073709551615 := by
  unfold part
  simp only [show (65536 : Int) ^ 4 = 18446744073709551616 from by decide]
  omega
def iAt : Nat → Int
  | 0 => 3
  | 1 => 2
  | 2 => 1
  | 3 => 0
  | _ => -1
set_option maxHeartbeats 4000000 in
set_option maxRecDepth 100000 in
theorem Wide_pos (V : Int) (w : World) (hb : 0 ≤ V ∧ V ≤ 170141183460469231731687303715884105727) :
    Calls Try.prog 40 #[.agg (longA V)] w fun e w' => e = .returned (.tuple #[.agg #[.int .i64 (V / 18446744073709551616), .int .u64 (V % 18446744073709551616)], .bool true]) ∧ Below w.heap.size w w' := by
  have HE1 : Hid (wrap64 (part V 4 4) = V / 18446744073709551616) := Lib.hid (by unfold wrap64 part; simp only [show (65536 : Int) ^ 4 = 18446744073709551616 from by decide]; omega)
  have HE2 : Hid (part V 0 4 = V % 18446744073709551616) := Lib.hid (by unfold part; simp only [show (65536 : Int) ^ 0 = 1 from by decide, show (65536 : Int) ^ 4 = 18446744073709551616 from by decide]; omega)
  have g7 : ¬ 32768 ≤ dg V 7 := by
    unfold dg
    simp only [show (65536 : Int) ^ 7 = 5192296858534827628530496329220096 from by decide]
    omega
  have g8 : dg V 8 = 0 := by
    unfold dg
    simp only [show (65536 : Int) ^ 8 = 340282366920938463463374607431768211456 from by decide]
    omega
  have g9 : dg V 9 = 0 := by
    unfold dg
    simp only [show (65536 : Int) ^ 9 = 22300745198530623141535718272648361505980416 from by decide]
    omega
  have g10 : dg V 10 = 0 := by
    unfold dg
    simp only [show (65536 : Int) ^ 10 = 1461501637330902918203684832716283019655932542976 from by decide]
    omega
  have g11 : dg V 11 = 0 := by
    unfold dg
    simp only [show (65536 : Int) ^ 11 = 95780971304118053647396689196894323976171195136475136 from by decide]
    omega
  clear hb
  obtain ⟨hv0a, hv0b⟩ := dg_in V 0
  obtain ⟨hv1a, hv1b⟩ := dg_in V 1
  obtain ⟨hv2a, hv2b⟩ := dg_in V 2
  obtain ⟨hv3a, hv3b⟩ := dg_in V 3
  obtain ⟨hv4a, hv4b⟩ := dg_in V 4
  obtain ⟨hv5a, hv5b⟩ := dg_in V 5
  obtain ⟨hv6a, hv6b⟩ := dg_in V 6
  obtain ⟨hv7a, hv7b⟩ := dg_in V 7
  obtain ⟨p31a, p31b⟩ := part_in1 V 3
  obtain ⟨p22a, p22b⟩ := part_in2 V 2
  obtain ⟨p13a, p13b⟩ := part_in3 V 1
  obtain ⟨p04a, p04b⟩ := part_in4 V 0
  obtain ⟨p71a, p71b⟩ := part_in1 V 7
  obtain ⟨p62a, p62b⟩ := part_in2 V 6
  obtain ⟨p53a, p53b⟩ := part_in3 V 5
  obtain ⟨p44a, p44b⟩ := part_in4 V 4
  obtain ⟨p40a, p40b⟩ := part_in0 V 4
  obtain ⟨p80a, p80b⟩ := part_in0 V 8
  simp only [longA]
  go_enter Try.func40, Try.ntmps40
  go_wp2
  go_loop [5] (fun i => ∃ k : Nat, k ≤ 4 ∧ i = .int .i64 (8 + k)) (fun i => 12 - (intOf i).toNat)
  case atStart => exact ⟨0, by omega, rfl⟩
  case round =>
    obtain ⟨k, hk, rfl⟩ := hrel
    rcases (by omega : k = 0 ∨ k = 1 ∨ k = 2 ∨ k = 3 ∨ k = 4) with rfl | rfl | rfl | rfl | rfl
    · go_wp2
      go_round
      case rel => exact ⟨1, by omega, rfl⟩
      case measure => simp [intOf]
    · go_wp2
      go_round
      case rel => exact ⟨2, by omega, rfl⟩
      case measure => simp [intOf]
    · go_wp2
      go_round
      case rel => exact ⟨3, by omega, rfl⟩
      case measure => simp [intOf]
    · go_wp2
      go_round
      case rel => exact ⟨4, by omega, rfl⟩
      case measure => simp [intOf]
    · go_wp2
      go_loop [6, 7, 8] (fun lo hi i => ∃ k : Nat, k ≤ 4 ∧ i = .int .i64 (iAt k) ∧ lo = .int .u64 (part V (4 - k) k) ∧ hi = .int .u64 (part V (8 - k) k)) (fun _ _ i => (intOf i + 1).toNat)
      case atStart => exact ⟨0, by omega, rfl, by simp [part], by simp [part]⟩
      case round =>
        obtain ⟨k, hk, rfl, rfl, rfl⟩ := hrel
        rcases (by omega : k = 0 ∨ k = 1 ∨ k = 2 ∨ k = 3 ∨ k = 4) with rfl | rfl | rfl | rfl | rfl
        · simp only [iAt, Nat.reduceSub]
          go_wp2
          go_round
          case rel => exact ⟨1, by omega, rfl, by rw [← part_3_0], by rw [← part_7_0]⟩
          case measure => simp [intOf]
        · simp only [iAt, Nat.reduceSub]
          go_wp2
          go_round
          case rel => exact ⟨2, by omega, rfl, by rw [← part_2_1], by rw [← part_6_1]⟩
          case measure => simp [intOf]
        · simp only [iAt, Nat.reduceSub]
          go_wp2
          go_round
          case rel => exact ⟨3, by omega, rfl, by rw [← part_1_2], by rw [← part_5_2]⟩
          case measure => simp [intOf]
        · simp only [iAt, Nat.reduceSub]
          go_wp2
          go_round
          case rel => exact ⟨4, by omega, rfl, by rw [← part_0_3], by rw [← part_4_3]⟩
          case measure => simp [intOf]
        · simp only [iAt, Nat.reduceSub]
          go_wp2
          exact bodyPost_ret (v := .tuple #[.agg #[.int .i64 (wrap64 (part V 4 4)), .int .u64 (part V 0 4)], .bool true]) (by simp [results, Try.results40, go_sem]) rfl ⟨by rw [HE1.out, HE2.out], by repeat (with_reducible first | apply pw_below_drewN | apply below_alloc | exact Below.refl _ _ | (refine below_set ?_ (by omega)))⟩
set_option maxHeartbeats 4000000 in
set_option maxRecDepth 100000 in
theorem Wide_neg (V : Int) (w : World) (hb : -170141183460469231731687303715884105728 ≤ V ∧ V < 0) :
    Calls Try.prog 40 #[.agg (longA V)] w fun e w' => e = .returned (.tuple #[.agg #[.int .i64 (V / 18446744073709551616), .int .u64 (V % 18446744073709551616)], .bool true]) ∧ Below w.heap.size w w' := by
  have HE1 : Hid (wrap64 (part V 4 4) = V / 18446744073709551616) := Lib.hid (by unfold wrap64 part; simp only [show (65536 : Int) ^ 4 = 18446744073709551616 from by decide]; omega)
  have HE2 : Hid (part V 0 4 = V % 18446744073709551616) := Lib.hid (by unfold part; simp only [show (65536 : Int) ^ 0 = 1 from by decide, show (65536 : Int) ^ 4 = 18446744073709551616 from by decide]; omega)
  have g7 : 32768 ≤ dg V 7 := by
    unfold dg
    simp only [show (65536 : Int) ^ 7 = 5192296858534827628530496329220096 from by decide]
    omega
  have g8 : dg V 8 = 65535 := by
    unfold dg
    simp only [show (65536 : Int) ^ 8 = 340282366920938463463374607431768211456 from by decide]
    omega
  have g9 : dg V 9 = 65535 := by
    unfold dg
    simp only [show (65536 : Int) ^ 9 = 22300745198530623141535718272648361505980416 from by decide]
    omega
  have g10 : dg V 10 = 65535 := by
    unfold dg
    simp only [show (65536 : Int) ^ 10 = 1461501637330902918203684832716283019655932542976 from by decide]
    omega
  have g11 : dg V 11 = 65535 := by
    unfold dg
    simp only [show (65536 : Int) ^ 11 = 95780971304118053647396689196894323976171195136475136 from by decide]
    omega
  clear hb
  obtain ⟨hv0a, hv0b⟩ := dg_in V 0
  obtain ⟨hv1a, hv1b⟩ := dg_in V 1
  obtain ⟨hv2a, hv2b⟩ := dg_in V 2
  obtain ⟨hv3a, hv3b⟩ := dg_in V 3
  obtain ⟨hv4a, hv4b⟩ := dg_in V 4
  obtain ⟨hv5a, hv5b⟩ := dg_in V 5
  obtain ⟨hv6a, hv6b⟩ := dg_in V 6
  obtain ⟨hv7a, hv7b⟩ := dg_in V 7
  obtain ⟨p31a, p31b⟩ := part_in1 V 3
  obtain ⟨p22a, p22b⟩ := part_in2 V 2
  obtain ⟨p13a, p13b⟩ := part_in3 V 1
  obtain ⟨p04a, p04b⟩ := part_in4 V 0
  obtain ⟨p71a, p71b⟩ := part_in1 V 7
  obtain ⟨p62a, p62b⟩ := part_in2 V 6
  obtain ⟨p53a, p53b⟩ := part_in3 V 5
  obtain ⟨p44a, p44b⟩ := part_in4 V 4
  obtain ⟨p40a, p40b⟩ := part_in0 V 4
  obtain ⟨p80a, p80b⟩ := part_in0 V 8
  simp only [longA]
  go_enter Try.func40, Try.ntmps40
  go_wp2
  go_loop [5] (fun i => ∃ k : Nat, k ≤ 4 ∧ i = .int .i64 (8 + k)) (fun i => 12 - (intOf i).toNat)
  case atStart => exact ⟨0, by omega, rfl⟩
  case round =>
    obtain ⟨k, hk, rfl⟩ := hrel
    rcases (by omega : k = 0 ∨ k = 1 ∨ k = 2 ∨ k = 3 ∨ k = 4) with rfl | rfl | rfl | rfl | rfl
    · go_wp2
      go_round
      case rel => exact ⟨1, by omega, rfl⟩
      case measure => simp [intOf]
    · go_wp2
      go_round
      case rel => exact ⟨2, by omega, rfl⟩
      case measure => simp [intOf]
    · go_wp2
      go_round
      case rel => exact ⟨3, by omega, rfl⟩
      case measure => simp [intOf]
    · go_wp2
      go_round
      case rel => exact ⟨4, by omega, rfl⟩
      case measure => simp [intOf]
    · go_wp2
      go_loop [6, 7, 8] (fun lo hi i => ∃ k : Nat, k ≤ 4 ∧ i = .int .i64 (iAt k) ∧ lo = .int .u64 (part V (4 - k) k) ∧ hi = .int .u64 (part V (8 - k) k)) (fun _ _ i => (intOf i + 1).toNat)
      case atStart => exact ⟨0, by omega, rfl, by simp [part], by simp [part]⟩
      case round =>
        obtain ⟨k, hk, rfl, rfl, rfl⟩ := hrel
        rcases (by omega : k = 0 ∨ k = 1 ∨ k = 2 ∨ k = 3 ∨ k = 4) with rfl | rfl | rfl | rfl | rfl
        · simp only [iAt, Nat.reduceSub]
          go_wp2
          go_round
          case rel => exact ⟨1, by omega, rfl, by rw [← part_3_0], by rw [← part_7_0]⟩
          case measure => simp [intOf]
        · simp only [iAt, Nat.reduceSub]
          go_wp2
          go_round
          case rel => exact ⟨2, by omega, rfl, by rw [← part_2_1], by rw [← part_6_1]⟩
          case measure => simp [intOf]
        · simp only [iAt, Nat.reduceSub]
          go_wp2
          go_round
          case rel => exact ⟨3, by omega, rfl, by rw [← part_1_2], by rw [← part_5_2]⟩
          case measure => simp [intOf]
        · simp only [iAt, Nat.reduceSub]
          go_wp2
          go_round
          case rel => exact ⟨4, by omega, rfl, by rw [← part_0_3], by rw [← part_4_3]⟩
          case measure => simp [intOf]
        · simp only [iAt, Nat.reduceSub]
          go_wp2
          exact bodyPost_ret (v := .tuple #[.agg #[.int .i64 (wrap64 (part V 4 4)), .int .u64 (part V 0 4)], .bool true]) (by simp [results, Try.results40, go_sem]) rfl ⟨by rw [HE1.out, HE2.out], by repeat (with_reducible first | apply pw_below_drewN | apply below_alloc | exact Below.refl _ _ | (refine below_set ?_ (by omega)))⟩
set_option maxHeartbeats 4000000 in
set_option maxRecDepth 100000 in
theorem Wide_no_0_0 (V : Int) (w : World) (g7 : ¬ 32768 ≤ dg V 7)  (hn : ¬ dg V 8 = 0) :
    Calls Try.prog 40 #[.agg (longA V)] w fun e w' => e = .returned (.tuple #[.agg #[.int .i64 0, .int .u64 0], .bool false]) ∧ Below w.heap.size w w' := by
  have hn1 : (dg V 8 == 0) = false := beq_eq_false_iff_ne.mpr hn
  have hn2 : (dg V 8 != 0) = true := bne_iff_ne.mpr hn
  clear hn
  obtain ⟨hv0a, hv0b⟩ := dg_in V 0
  obtain ⟨hv1a, hv1b⟩ := dg_in V 1
  obtain ⟨hv2a, hv2b⟩ := dg_in V 2
  obtain ⟨hv3a, hv3b⟩ := dg_in V 3
  obtain ⟨hv4a, hv4b⟩ := dg_in V 4
  obtain ⟨hv5a, hv5b⟩ := dg_in V 5
  obtain ⟨hv6a, hv6b⟩ := dg_in V 6
  obtain ⟨hv7a, hv7b⟩ := dg_in V 7
  obtain ⟨hv8a, hv8b⟩ := dg_in V 8
  obtain ⟨hv9a, hv9b⟩ := dg_in V 9
  obtain ⟨hv10a, hv10b⟩ := dg_in V 10
  obtain ⟨hv11a, hv11b⟩ := dg_in V 11
  simp only [longA]
  go_enter Try.func40, Try.ntmps40
  go_wp2
  go_loop [5] (fun i => ∃ k : Nat, k ≤ 0 ∧ i = .int .i64 (8 + k)) (fun i => 12 - (intOf i).toNat)
  case atStart => exact ⟨0, by omega, rfl⟩
  case round =>
    obtain ⟨k, hk, rfl⟩ := hrel
    rcases (by omega : k = 0) with rfl
    · go_wp2
      exact bodyPost_ret (v := .tuple #[.agg #[.int .i64 0, .int .u64 0], .bool false]) (by simp [results, Try.results40, go_sem]) rfl ⟨rfl, by repeat (with_reducible first | apply pw_below_drewN | apply below_alloc | exact Below.refl _ _ | (refine below_set ?_ (by omega)))⟩
set_option maxHeartbeats 4000000 in
set_option maxRecDepth 100000 in
theorem Wide_no_0_1 (V : Int) (w : World) (g7 : ¬ 32768 ≤ dg V 7) (g8 : dg V 8 = 0) (hn : ¬ dg V 9 = 0) :
    Calls Try.prog 40 #[.agg (longA V)] w fun e w' => e = .returned (.tuple #[.agg #[.int .i64 0, .int .u64 0], .bool false]) ∧ Below w.heap.size w w' := by
  have hn1 : (dg V 9 == 0) = false := beq_eq_false_iff_ne.mpr hn
  have hn2 : (dg V 9 != 0) = true := bne_iff_ne.mpr hn
  clear hn
  obtain ⟨hv0a, hv0b⟩ := dg_in V 0
  obtain ⟨hv1a, hv1b⟩ := dg_in V 1
  obtain ⟨hv2a, hv2b⟩ := dg_in V 2
  obtain ⟨hv3a, hv3b⟩ := dg_in V 3
  obtain ⟨hv4a, hv4b⟩ := dg_in V 4
  obtain ⟨hv5a, hv5b⟩ := dg_in V 5
  obtain ⟨hv6a, hv6b⟩ := dg_in V 6
  obtain ⟨hv7a, hv7b⟩ := dg_in V 7
  obtain ⟨hv9a, hv9b⟩ := dg_in V 9
  obtain ⟨hv10a, hv10b⟩ := dg_in V 10
  obtain ⟨hv11a, hv11b⟩ := dg_in V 11
  simp only [longA]
  go_enter Try.func40, Try.ntmps40
  go_wp2
  go_loop [5] (fun i => ∃ k : Nat, k ≤ 1 ∧ i = .int .i64 (8 + k)) (fun i => 12 - (intOf i).toNat)
  case atStart => exact ⟨0, by omega, rfl⟩
  case round =>
    obtain ⟨k, hk, rfl⟩ := hrel
    rcases (by omega : k = 0 ∨ k = 1) with rfl | rfl
    · go_wp2
      go_round
      case rel => exact ⟨1, by omega, rfl⟩
      case measure => simp [intOf]
    · go_wp2
      exact bodyPost_ret (v := .tuple #[.agg #[.int .i64 0, .int .u64 0], .bool false]) (by simp [results, Try.results40, go_sem]) rfl ⟨rfl, by repeat (with_reducible first | apply pw_below_drewN | apply below_alloc | exact Below.refl _ _ | (refine below_set ?_ (by omega)))⟩
set_option maxHeartbeats 4000000 in
set_option maxRecDepth 100000 in
theorem Wide_no_0_2 (V : Int) (w : World) (g7 : ¬ 32768 ≤ dg V 7) (g8 : dg V 8 = 0) (g9 : dg V 9 = 0) (hn : ¬ dg V 10 = 0) :
    Calls Try.prog 40 #[.agg (longA V)] w fun e w' => e = .returned (.tuple #[.agg #[.int .i64 0, .int .u64 0], .bool false]) ∧ Below w.heap.size w w' := by
  have hn1 : (dg V 10 == 0) = false := beq_eq_false_iff_ne.mpr hn
  have hn2 : (dg V 10 != 0) = true := bne_iff_ne.mpr hn
  clear hn
  obtain ⟨hv0a, hv0b⟩ := dg_in V 0
  obtain ⟨hv1a, hv1b⟩ := dg_in V 1
  obtain ⟨hv2a, hv2b⟩ := dg_in V 2
  obtain ⟨hv3a, hv3b⟩ := dg_in V 3
  obtain ⟨hv4a, hv4b⟩ := dg_in V 4
  obtain ⟨hv5a, hv5b⟩ := dg_in V 5
  obtain ⟨hv6a, hv6b⟩ := dg_in V 6
  obtain ⟨hv7a, hv7b⟩ := dg_in V 7
  obtain ⟨hv10a, hv10b⟩ := dg_in V 10
  obtain ⟨hv11a, hv11b⟩ := dg_in V 11
  simp only [longA]
  go_enter Try.func40, Try.ntmps40
  go_wp2
  go_loop [5] (fun i => ∃ k : Nat, k ≤ 2 ∧ i = .int .i64 (8 + k)) (fun i => 12 - (intOf i).toNat)
  case atStart => exact ⟨0, by omega, rfl⟩
  case round =>
    obtain ⟨k, hk, rfl⟩ := hrel
    rcases (by omega : k = 0 ∨ k = 1 ∨ k = 2) with rfl | rfl | rfl
    · go_wp2
      go_round
      case rel => exact ⟨1, by omega, rfl⟩
      case measure => simp [intOf]
    · go_wp2
      go_round
      case rel => exact ⟨2, by omega, rfl⟩
      case measure => simp [intOf]
    · go_wp2
      exact bodyPost_ret (v := .tuple #[.agg #[.int .i64 0, .int .u64 0], .bool false]) (by simp [results, Try.results40, go_sem]) rfl ⟨rfl, by repeat (with_reducible first | apply pw_below_drewN | apply below_alloc | exact Below.refl _ _ | (refine below_set ?_ (by omega)))⟩
set_option maxHeartbeats 4000000 in
set_option maxRecDepth 100000 in
theorem Wide_no_0_3 (V : Int) (w : World) (g7 : ¬ 32768 ≤ dg V 7) (g8 : dg V 8 = 0) (g9 : dg V 9 = 0) (g10 : dg V 10 = 0) (hn : ¬ dg V 11 = 0) :
    Calls Try.prog 40 #[.agg (longA V)] w fun e w' => e = .returned (.tuple #[.agg #[.int .i64 0, .int .u64 0], .bool false]) ∧ Below w.heap.size w w' := by
  have hn1 : (dg V 11 == 0) = false := beq_eq_false_iff_ne.mpr hn
  have hn2 : (dg V 11 != 0) = true := bne_iff_ne.mpr hn
  clear hn
  obtain ⟨hv0a, hv0b⟩ := dg_in V 0
  obtain ⟨hv1a, hv1b⟩ := dg_in V 1
  obtain ⟨hv2a, hv2b⟩ := dg_in V 2
  obtain ⟨hv3a, hv3b⟩ := dg_in V 3
  obtain ⟨hv4a, hv4b⟩ := dg_in V 4
  obtain ⟨hv5a, hv5b⟩ := dg_in V 5
  obtain ⟨hv6a, hv6b⟩ := dg_in V 6
  obtain ⟨hv7a, hv7b⟩ := dg_in V 7
  obtain ⟨hv11a, hv11b⟩ := dg_in V 11
  simp only [longA]
  go_enter Try.func40, Try.ntmps40
  go_wp2
  go_loop [5] (fun i => ∃ k : Nat, k ≤ 3 ∧ i = .int .i64 (8 + k)) (fun i => 12 - (intOf i).toNat)
  case atStart => exact ⟨0, by omega, rfl⟩
  case round =>
    obtain ⟨k, hk, rfl⟩ := hrel
    rcases (by omega : k = 0 ∨ k = 1 ∨ k = 2 ∨ k = 3) with rfl | rfl | rfl | rfl
    · go_wp2
      go_round
      case rel => exact ⟨1, by omega, rfl⟩
      case measure => simp [intOf]
    · go_wp2
      go_round
      case rel => exact ⟨2, by omega, rfl⟩
      case measure => simp [intOf]
    · go_wp2
      go_round
      case rel => exact ⟨3, by omega, rfl⟩
      case measure => simp [intOf]
    · go_wp2
      exact bodyPost_ret (v := .tuple #[.agg #[.int .i64 0, .int .u64 0], .bool false]) (by simp [results, Try.results40, go_sem]) rfl ⟨rfl, by repeat (with_reducible first | apply pw_below_drewN | apply below_alloc | exact Below.refl _ _ | (refine below_set ?_ (by omega)))⟩
set_option maxHeartbeats 4000000 in
set_option maxRecDepth 100000 in
theorem Wide_no_65535_0 (V : Int) (w : World) (g7 : 32768 ≤ dg V 7)  (hn : ¬ dg V 8 = 65535) :
    Calls Try.prog 40 #[.agg (longA V)] w fun e w' => e = .returned (.tuple #[.agg #[.int .i64 0, .int .u64 0], .bool false]) ∧ Below w.heap.size w w' := by
  have hn1 : (dg V 8 == 65535) = false := beq_eq_false_iff_ne.mpr hn
  have hn2 : (dg V 8 != 65535) = true := bne_iff_ne.mpr hn
  clear hn
  obtain ⟨hv0a, hv0b⟩ := dg_in V 0
  obtain ⟨hv1a, hv1b⟩ := dg_in V 1
  obtain ⟨hv2a, hv2b⟩ := dg_in V 2
  obtain ⟨hv3a, hv3b⟩ := dg_in V 3
  obtain ⟨hv4a, hv4b⟩ := dg_in V 4
  obtain ⟨hv5a, hv5b⟩ := dg_in V 5
  obtain ⟨hv6a, hv6b⟩ := dg_in V 6
  obtain ⟨hv7a, hv7b⟩ := dg_in V 7
  obtain ⟨hv8a, hv8b⟩ := dg_in V 8
  obtain ⟨hv9a, hv9b⟩ := dg_in V 9
  obtain ⟨hv10a, hv10b⟩ := dg_in V 10
  obtain ⟨hv11a, hv11b⟩ := dg_in V 11
  simp only [longA]
  go_enter Try.func40, Try.ntmps40
  go_wp2
  go_loop [5] (fun i => ∃ k : Nat, k ≤ 0 ∧ i = .int .i64 (8 + k)) (fun i => 12 - (intOf i).toNat)
  case atStart => exact ⟨0, by omega, rfl⟩
  case round =>
    obtain ⟨k, hk, rfl⟩ := hrel
    rcases (by omega : k = 0) with rfl
    · go_wp2
      exact bodyPost_ret (v := .tuple #[.agg #[.int .i64 0, .int .u64 0], .bool false]) (by simp [results, Try.results40, go_sem]) rfl ⟨rfl, by repeat (with_reducible first | apply pw_below_drewN | apply below_alloc | exact Below.refl _ _ | (refine below_set ?_ (by omega)))⟩
set_option maxHeartbeats 4000000 in
set_option maxRecDepth 100000 in
theorem Wide_no_65535_1 (V : Int) (w : World) (g7 : 32768 ≤ dg V 7) (g8 : dg V 8 = 65535) (hn : ¬ dg V 9 = 65535) :
    Calls Try.prog 40 #[.agg (longA V)] w fun e w' => e = .returned (.tuple #[.agg #[.int .i64 0, .int .u64 0], .bool false]) ∧ Below w.heap.size w w' := by
  have hn1 : (dg V 9 == 65535) = false := beq_eq_false_iff_ne.mpr hn
  have hn2 : (dg V 9 != 65535) = true := bne_iff_ne.mpr hn
  clear hn
  obtain ⟨hv0a, hv0b⟩ := dg_in V 0
  obtain ⟨hv1a, hv1b⟩ := dg_in V 1
  obtain ⟨hv2a, hv2b⟩ := dg_in V 2
  obtain ⟨hv3a, hv3b⟩ := dg_in V 3
  obtain ⟨hv4a, hv4b⟩ := dg_in V 4
  obtain ⟨hv5a, hv5b⟩ := dg_in V 5
  obtain ⟨hv6a, hv6b⟩ := dg_in V 6
  obtain ⟨hv7a, hv7b⟩ := dg_in V 7
  obtain ⟨hv9a, hv9b⟩ := dg_in V 9
  obtain ⟨hv10a, hv10b⟩ := dg_in V 10
  obtain ⟨hv11a, hv11b⟩ := dg_in V 11
  simp only [longA]
  go_enter Try.func40, Try.ntmps40
  go_wp2
  go_loop [5] (fun i => ∃ k : Nat, k ≤ 1 ∧ i = .int .i64 (8 + k)) (fun i => 12 - (intOf i).toNat)
  case atStart => exact ⟨0, by omega, rfl⟩
  case round =>
    obtain ⟨k, hk, rfl⟩ := hrel
    rcases (by omega : k = 0 ∨ k = 1) with rfl | rfl
    · go_wp2
      go_round
      case rel => exact ⟨1, by omega, rfl⟩
      case measure => simp [intOf]
    · go_wp2
      exact bodyPost_ret (v := .tuple #[.agg #[.int .i64 0, .int .u64 0], .bool false]) (by simp [results, Try.results40, go_sem]) rfl ⟨rfl, by repeat (with_reducible first | apply pw_below_drewN | apply below_alloc | exact Below.refl _ _ | (refine below_set ?_ (by omega)))⟩
set_option maxHeartbeats 4000000 in
set_option maxRecDepth 100000 in
theorem Wide_no_65535_2 (V : Int) (w : World) (g7 : 32768 ≤ dg V 7) (g8 : dg V 8 = 65535) (g9 : dg V 9 = 65535) (hn : ¬ dg V 10 = 65535) :
    Calls Try.prog 40 #[.agg (longA V)] w fun e w' => e = .returned (.tuple #[.agg #[.int .i64 0, .int .u64 0], .bool false]) ∧ Below w.heap.size w w' := by
  have hn1 : (dg V 10 == 65535) = false := beq_eq_false_iff_ne.mpr hn
  have hn2 : (dg V 10 != 65535) = true := bne_iff_ne.mpr hn
  clear hn
  obtain ⟨hv0a, hv0b⟩ := dg_in V 0
  obtain ⟨hv1a, hv1b⟩ := dg_in V 1
  obtain ⟨hv2a, hv2b⟩ := dg_in V 2
  obtain ⟨hv3a, hv3b⟩ := dg_in V 3
  obtain ⟨hv4a, hv4b⟩ := dg_in V 4
  obtain ⟨hv5a, hv5b⟩ := dg_in V 5
  obtain ⟨hv6a, hv6b⟩ := dg_in V 6
  obtain ⟨hv7a, hv7b⟩ := dg_in V 7
  obtain ⟨hv10a, hv10b⟩ := dg_in V 10
  obtain ⟨hv11a, hv11b⟩ := dg_in V 11
  simp only [longA]
  go_enter Try.func40, Try.ntmps40
  go_wp2
  go_loop [5] (fun i => ∃ k : Nat, k ≤ 2 ∧ i = .int .i64 (8 + k)) (fun i => 12 - (intOf i).toNat)
  case atStart => exact ⟨0, by omega, rfl⟩
  case round =>
    obtain ⟨k, hk, rfl⟩ := hrel
    rcases (by omega : k = 0 ∨ k = 1 ∨ k = 2) with rfl | rfl | rfl
    · go_wp2
      go_round
      case rel => exact ⟨1, by omega, rfl⟩
      case measure => simp [intOf]
    · go_wp2
      go_round
      case rel => exact ⟨2, by omega, rfl⟩
      case measure => simp [intOf]
    · go_wp2
      exact bodyPost_ret (v := .tuple #[.agg #[.int .i64 0, .int .u64 0], .bool false]) (by simp [results, Try.results40, go_sem]) rfl ⟨rfl, by repeat (with_reducible first | apply pw_below_drewN | apply below_alloc | exact Below.refl _ _ | (refine below_set ?_ (by omega)))⟩
set_option maxHeartbeats 4000000 in
set_option maxRecDepth 100000 in
theorem Wide_no_65535_3 (V : Int) (w : World) (g7 : 32768 ≤ dg V 7) (g8 : dg V 8 = 65535) (g9 : dg V 9 = 65535) (g10 : dg V 10 = 65535) (hn : ¬ dg V 11 = 65535) :
    Calls Try.prog 40 #[.agg (longA V)] w fun e w' => e = .returned (.tuple #[.agg #[.int .i64 0, .int .u64 0], .bool false]) ∧ Below w.heap.size w w' := by
  have hn1 : (dg V 11 == 65535) = false := beq_eq_false_iff_ne.mpr hn
  have hn2 : (dg V 11 != 65535) = true := bne_iff_ne.mpr hn
  clear hn
  obtain ⟨hv0a, hv0b⟩ := dg_in V 0
  obtain ⟨hv1a, hv1b⟩ := dg_in V 1
  obtain ⟨hv2a, hv2b⟩ := dg_in V 2
  obtain ⟨hv3a, hv3b⟩ := dg_in V 3
  obtain ⟨hv4a, hv4b⟩ := dg_in V 4
  obtain ⟨hv5a, hv5b⟩ := dg_in V 5
  obtain ⟨hv6a, hv6b⟩ := dg_in V 6
  obtain ⟨hv7a, hv7b⟩ := dg_in V 7
  obtain ⟨hv11a, hv11b⟩ := dg_in V 11
  simp only [longA]
  go_enter Try.func40, Try.ntmps40
  go_wp2
  go_loop [5] (fun i => ∃ k : Nat, k ≤ 3 ∧ i = .int .i64 (8 + k)) (fun i => 12 - (intOf i).toNat)
  case atStart => exact ⟨0, by omega, rfl⟩
  case round =>
    obtain ⟨k, hk, rfl⟩ := hrel
    rcases (by omega : k = 0 ∨ k = 1 ∨ k = 2 ∨ k = 3) with rfl | rfl | rfl | rfl
    · go_wp2
      go_round
      case rel => exact ⟨1, by omega, rfl⟩
      case measure => simp [intOf]
    · go_wp2
      go_round
      case rel => exact ⟨2, by omega, rfl⟩
      case measure => simp [intOf]
    · go_wp2
      go_round
      case rel => exact ⟨3, by omega, rfl⟩
      case measure => simp [intOf]
    · go_wp2
      exact bodyPost_ret (v := .tuple #[.agg #[.int .i64 0, .int .u64 0], .bool false]) (by simp [results, Try.results40, go_sem]) rfl ⟨rfl, by repeat (with_reducible first | apply pw_below_drewN | apply below_alloc | exact Below.refl _ _ | (refine below_set ?_ (by omega)))⟩
def sval (a0 a1 a2 a3 a4 a5 a6 a7 a8 a9 a10 a11 : Int) : Int := if 32768 ≤ a11 then lval a0 a1 a2 a3 a4 a5 a6 a7 a8 a9 a10 a11 - 6277101735386680763835789423207666416102355444464034512896 else lval a0 a1 a2 a3 a4 a5 a6 a7 a8 a9 a10 a11
theorem of_sdigits {a0 a1 a2 a3 a4 a5 a6 a7 a8 a9 a10 a11 : Int} (h : bnd a0 a1 a2 a3 a4 a5 a6 a7 a8 a9 a10 a11) : ∃ V, sval a0 a1 a2 a3 a4 a5 a6 a7 a8 a9 a10 a11 = V ∧ (-3138550867693340381917894711603833208051177722232017256448 ≤ V ∧ V < 3138550867693340381917894711603833208051177722232017256448) ∧ dg V 0 = a0 ∧ dg V 1 = a1 ∧ dg V 2 = a2 ∧ dg V 3 = a3 ∧ dg V 4 = a4 ∧ dg V 5 = a5 ∧ dg V 6 = a6 ∧ dg V 7 = a7 ∧ dg V 8 = a8 ∧ dg V 9 = a9 ∧ dg V 10 = a10 ∧ dg V 11 = a11 := by
  refine ⟨_, rfl, ?_⟩
  unfold bnd at h
  unfold sval lval dg
  simp only [show (65536 : Int) ^ 0 = 1 from by decide, show (65536 : Int) ^ 1 = 65536 from by decide, show (65536 : Int) ^ 2 = 4294967296 from by decide, show (65536 : Int) ^ 3 = 281474976710656 from by decide, show (65536 : Int) ^ 4 = 18446744073709551616 from by decide, show (65536 : Int) ^ 5 = 1208925819614629174706176 from by decide, show (65536 : Int) ^ 6 = 79228162514264337593543950336 from by decide, show (65536 : Int) ^ 7 = 5192296858534827628530496329220096 from by decide, show (65536 : Int) ^ 8 = 340282366920938463463374607431768211456 from by decide, show (65536 : Int) ^ 9 = 22300745198530623141535718272648361505980416 from by decide, show (65536 : Int) ^ 10 = 1461501637330902918203684832716283019655932542976 from by decide, show (65536 : Int) ^ 11 = 95780971304118053647396689196894323976171195136475136 from by decide]
  split <;> omega
def Wide.f (a0 a1 a2 a3 a4 a5 a6 a7 a8 a9 a10 a11 : Int) : Option (Int × Int × Bool) := if bnd a0 a1 a2 a3 a4 a5 a6 a7 a8 a9 a10 a11 then some (if -170141183460469231731687303715884105728 ≤ sval a0 a1 a2 a3 a4 a5 a6 a7 a8 a9 a10 a11 ∧ sval a0 a1 a2 a3 a4 a5 a6 a7 a8 a9 a10 a11 ≤ 170141183460469231731687303715884105727 then (sval a0 a1 a2 a3 a4 a5 a6 a7 a8 a9 a10 a11 / 18446744073709551616, sval a0 a1 a2 a3 a4 a5 a6 a7 a8 a9 a10 a11 % 18446744073709551616, true) else (0, 0, false)) else none
theorem Wide_any (V : Int) (w : World) (hV : -3138550867693340381917894711603833208051177722232017256448 ≤ V ∧ V < 3138550867693340381917894711603833208051177722232017256448) (r1 r2 : Int) (r3 : Bool) (h : (if -170141183460469231731687303715884105728 ≤ V ∧ V ≤ 170141183460469231731687303715884105727 then (V / 18446744073709551616, V % 18446744073709551616, true) else (0, 0, false)) = (r1, r2, r3)) :
    Calls Try.prog 40 #[.agg (longA V)] w fun e w' => e = .returned (.tuple #[.agg #[.int .i64 r1, .int .u64 r2], .bool r3]) ∧ Below w.heap.size w w' := by
  split at h
  · rename_i hb
    obtain ⟨rfl, rfl, rfl⟩ := by simpa only [Prod.mk.injEq] using h
    rcases Int.lt_or_le V 0 with hs | hs
    · exact Wide_neg V w ⟨hb.1, hs⟩
    · exact Wide_pos V w ⟨hs, hb.2⟩
  · rename_i hb
    obtain ⟨rfl, rfl, rfl⟩ := by simpa only [Prod.mk.injEq] using h
    by_cases g7 : 32768 ≤ dg V 7
    rotate_left
    · by_cases g8 : dg V 8 = 0
      · by_cases g9 : dg V 9 = 0
        · by_cases g10 : dg V 10 = 0
          · refine Wide_no_0_3 V w g7 g8 g9 g10 (fun g11 => hb ?_)
            clear h
            unfold dg at g7 g8 g9 g10 g11
            simp only [show (65536 : Int) ^ 7 = 5192296858534827628530496329220096 from by decide, show (65536 : Int) ^ 8 = 340282366920938463463374607431768211456 from by decide, show (65536 : Int) ^ 9 = 22300745198530623141535718272648361505980416 from by decide, show (65536 : Int) ^ 10 = 1461501637330902918203684832716283019655932542976 from by decide, show (65536 : Int) ^ 11 = 95780971304118053647396689196894323976171195136475136 from by decide] at g7 g8 g9 g10 g11
            omega
          · exact Wide_no_0_2 V w g7 g8 g9 g10
        · exact Wide_no_0_1 V w g7 g8 g9
      · exact Wide_no_0_0 V w g7 g8
    · by_cases g8 : dg V 8 = 65535
      · by_cases g9 : dg V 9 = 65535
        · by_cases g10 : dg V 10 = 65535
          · refine Wide_no_65535_3 V w g7 g8 g9 g10 (fun g11 => hb ?_)
            clear h
            unfold dg at g7 g8 g9 g10 g11
            simp only [show (65536 : Int) ^ 7 = 5192296858534827628530496329220096 from by decide, show (65536 : Int) ^ 8 = 340282366920938463463374607431768211456 from by decide, show (65536 : Int) ^ 9 = 22300745198530623141535718272648361505980416 from by decide, show (65536 : Int) ^ 10 = 1461501637330902918203684832716283019655932542976 from by decide, show (65536 : Int) ^ 11 = 95780971304118053647396689196894323976171195136475136 from by decide] at g7 g8 g9 g10 g11
            omega
          · exact Wide_no_65535_2 V w g7 g8 g9 g10
        · exact Wide_no_65535_1 V w g7 g8 g9
      · exact Wide_no_65535_0 V w g7 g8

theorem Wide.calls (a0 a1 a2 a3 a4 a5 a6 a7 a8 a9 a10 a11 r1 r2 : Int) (r3 : Bool) (w : World) (h : Wide.f a0 a1 a2 a3 a4 a5 a6 a7 a8 a9 a10 a11 = some (r1, r2, r3)) :
    Calls Try.prog 40 #[.agg #[.int .u64 a0, .int .u64 a1, .int .u64 a2, .int .u64 a3, .int .u64 a4, .int .u64 a5, .int .u64 a6, .int .u64 a7, .int .u64 a8, .int .u64 a9, .int .u64 a10, .int .u64 a11]] w fun e w' => e = .returned (.tuple #[.agg #[.int .i64 r1, .int .u64 r2], .bool r3]) ∧ Below w.heap.size w w' := by
  unfold Wide.f at h
  split at h
  · rename_i hb
    obtain ⟨V, hV, hr, rfl, rfl, rfl, rfl, rfl, rfl, rfl, rfl, rfl, rfl, rfl, rfl⟩ := of_sdigits hb
    rw [hV] at h
    exact Wide_any V w hr r1 r2 r3 (Option.some.inj h)
  · cases h
theorem Wide_f {V : Int} (h : -3138550867693340381917894711603833208051177722232017256448 ≤ V ∧ V < 3138550867693340381917894711603833208051177722232017256448) : Wide.f (dg V 0) (dg V 1) (dg V 2) (dg V 3) (dg V 4) (dg V 5) (dg V 6) (dg V 7) (dg V 8) (dg V 9) (dg V 10) (dg V 11) = some (if -170141183460469231731687303715884105728 ≤ V ∧ V ≤ 170141183460469231731687303715884105727 then (V / 18446744073709551616, V % 18446744073709551616, true) else (0, 0, false)) := by
  unfold Wide.f
  rw [if_pos (bnd_dg V), show sval (dg V 0) (dg V 1) (dg V 2) (dg V 3) (dg V 4) (dg V 5) (dg V 6) (dg V 7) (dg V 8) (dg V 9) (dg V 10) (dg V 11) = V from by
    unfold sval
    rw [lval_dg]
    unfold dg
    simp only [show (65536 : Int) ^ 11 = 95780971304118053647396689196894323976171195136475136 from by decide]
    split <;> omega]
set_option maxHeartbeats 4000000 in
set_option maxRecDepth 100000 in
theorem told_1 (V : Int) (w : World) (hw : ∀ W : World, Calls Try.prog 40 #[.agg (longA V)] W fun e w' => e = .returned (.tuple #[.agg #[.int .i64 (V / 18446744073709551616), .int .u64 (V % 18446744073709551616)], .bool true]) ∧ Below W.heap.size W w') :
    Calls Try.prog 34 #[.agg (longA V)] w fun e w' => e = .returned (.tuple #[.agg #[.int .i64 (V / 18446744073709551616), .int .u64 (V % 18446744073709551616)], .int .i64 0]) ∧ Below w.heap.size w w' := by
  have HW := fun W => Lib.hid (hw W)
  clear hw
  simp only [longA] at HW ⊢
  go_enter Try.func34, Try.ntmps34
  go_wp2_with (go_at_call 40; (refine ((HW _).out).mono ?_); rintro e w1 ⟨rfl, hb⟩; obtain ⟨hc1, hf1⟩ := bcell hb; have hz1 : w.heap.size + 1 < w1.heap.size := by have := hb.size; simp at this; omega)
  exact bodyPost_ret (v := .tuple #[.agg #[.int .i64 (V / 18446744073709551616), .int .u64 (V % 18446744073709551616)], .int .i64 0]) (by simp [results, Try.results34, go_sem, hc1, hz1]) rfl ⟨rfl, by repeat (with_reducible first | apply below_alloc | apply pw_below_drewN | exact Below.refl _ _ | (refine below_set ?_ (by first | omega | (simp; omega))) | (refine below_next ?_ hb))⟩
set_option maxHeartbeats 4000000 in
set_option maxRecDepth 100000 in
theorem told_0 (V : Int) (w : World) (hw : ∀ W : World, Calls Try.prog 40 #[.agg (longA V)] W fun e w' => e = .returned (.tuple #[.agg #[.int .i64 0, .int .u64 0], .bool false]) ∧ Below W.heap.size W w') :
    Calls Try.prog 34 #[.agg (longA V)] w fun e w' => e = .returned (.tuple #[.agg #[.int .i64 0, .int .u64 0], .int .i64 10]) ∧ Below w.heap.size w w' := by
  have HW := fun W => Lib.hid (hw W)
  clear hw
  simp only [longA] at HW ⊢
  go_enter Try.func34, Try.ntmps34
  go_wp2_with (go_at_call 40; (refine ((HW _).out).mono ?_); rintro e w1 ⟨rfl, hb⟩; obtain ⟨hc1, hf1⟩ := bcell hb; have hz1 : w.heap.size + 1 < w1.heap.size := by have := hb.size; simp at this; omega)
  exact bodyPost_ret (v := .tuple #[.agg #[.int .i64 0, .int .u64 0], .int .i64 10]) (by simp [results, Try.results34, go_sem, hc1, hz1]) rfl ⟨rfl, by repeat (with_reducible first | apply below_alloc | apply pw_below_drewN | exact Below.refl _ _ | (refine below_set ?_ (by first | omega | (simp; omega))) | (refine below_next ?_ hb))⟩
theorem told_any (V : Int) (w : World) (hV : -3138550867693340381917894711603833208051177722232017256448 ≤ V ∧ V < 3138550867693340381917894711603833208051177722232017256448) :
    Calls Try.prog 34 #[.agg (longA V)] w fun e w' => e = .returned (.tuple #[.agg #[.int .i64 (wans V).1, .int .u64 (wans V).2.1], .int .i64 (wans V).2.2]) ∧ Below w.heap.size w w' := by
  by_cases h : -170141183460469231731687303715884105728 ≤ V ∧ V ≤ 170141183460469231731687303715884105727
  · rw [wans_in h]
    exact told_1 V w (fun W => Wide_any V W hV _ _ _ (if_pos h))
  · rw [wans_out h]
    exact told_0 V w (fun W => Wide_any V W hV _ _ _ (if_neg h))
def told.f (a0 a1 a2 a3 a4 a5 a6 a7 a8 a9 a10 a11 : Int) : Option (Int × Int × Int) := if bnd a0 a1 a2 a3 a4 a5 a6 a7 a8 a9 a10 a11 then some (wans (sval a0 a1 a2 a3 a4 a5 a6 a7 a8 a9 a10 a11)) else none
theorem told.calls (a0 a1 a2 a3 a4 a5 a6 a7 a8 a9 a10 a11 r1 r2 r3 : Int) (w : World) (h : told.f a0 a1 a2 a3 a4 a5 a6 a7 a8 a9 a10 a11 = some (r1, r2, r3)) :
    Calls Try.prog 34 #[.agg #[.int .u64 a0, .int .u64 a1, .int .u64 a2, .int .u64 a3, .int .u64 a4, .int .u64 a5, .int .u64 a6, .int .u64 a7, .int .u64 a8, .int .u64 a9, .int .u64 a10, .int .u64 a11]] w fun e w' => e = .returned (.tuple #[.agg #[.int .i64 r1, .int .u64 r2], .int .i64 r3]) ∧ Below w.heap.size w w' := by
  unfold told.f at h
  split at h
  · rename_i hb
    obtain ⟨V, hV, hr, rfl, rfl, rfl, rfl, rfl, rfl, rfl, rfl, rfl, rfl, rfl, rfl⟩ := of_sdigits hb
    rw [hV] at h
    have := told_any V w hr
    rw [Option.some.inj h] at this
    exact this
  · cases h
theorem told_f {V : Int} (h : -3138550867693340381917894711603833208051177722232017256448 ≤ V ∧ V < 3138550867693340381917894711603833208051177722232017256448) : told.f (dg V 0) (dg V 1) (dg V 2) (dg V 3) (dg V 4) (dg V 5) (dg V 6) (dg V 7) (dg V 8) (dg V 9) (dg V 10) (dg V 11) = some (wans V) := by
  unfold told.f
  rw [if_pos (bnd_dg V), show sval (dg V 0) (dg V 1) (dg V 2) (dg V 3) (dg V 4) (dg V 5) (dg V 6) (dg V 7) (dg V 8) (dg V 9) (dg V 10) (dg V 11) = V from by
    unfold sval
    rw [lval_dg]
    unfold dg
    simp only [show (65536 : Int) ^ 11 = 95780971304118053647396689196894323976171195136475136 from by decide]
    split <;> omega]
def joinA (a1 a2 : Int) : Nat → Array Value
  | 0 => #[.int .u64 0, .int .u64 0, .int .u64 0, .int .u64 0, .int .u64 0, .int .u64 0, .int .u64 0, .int .u64 0, .int .u64 0, .int .u64 0, .int .u64 0, .int .u64 0]
  | 1 => #[.int .u64 (a2 % 65536), .int .u64 0, .int .u64 0, .int .u64 0, .int .u64 (a1 % 65536), .int .u64 0, .int .u64 0, .int .u64 0, .int .u64 0, .int .u64 0, .int .u64 0, .int .u64 0]
  | 2 => #[.int .u64 (a2 % 65536), .int .u64 (a2 / 65536 % 65536), .int .u64 0, .int .u64 0, .int .u64 (a1 % 65536), .int .u64 (a1 / 65536 % 65536), .int .u64 0, .int .u64 0, .int .u64 0, .int .u64 0, .int .u64 0, .int .u64 0]
  | 3 => #[.int .u64 (a2 % 65536), .int .u64 (a2 / 65536 % 65536), .int .u64 (a2 / 4294967296 % 65536), .int .u64 0, .int .u64 (a1 % 65536), .int .u64 (a1 / 65536 % 65536), .int .u64 (a1 / 4294967296 % 65536), .int .u64 0, .int .u64 0, .int .u64 0, .int .u64 0, .int .u64 0]
  | 4 => #[.int .u64 (a2 % 65536), .int .u64 (a2 / 65536 % 65536), .int .u64 (a2 / 4294967296 % 65536), .int .u64 (a2 / 281474976710656 % 65536), .int .u64 (a1 % 65536), .int .u64 (a1 / 65536 % 65536), .int .u64 (a1 / 4294967296 % 65536), .int .u64 (a1 / 281474976710656 % 65536), .int .u64 0, .int .u64 0, .int .u64 0, .int .u64 0]
  | _ => #[]
theorem join_end {a1 a2 V : Int} (h1 : 0 ≤ a1 ∧ a1 ≤ 18446744073709551615) (h2 : 0 ≤ a2 ∧ a2 ≤ 18446744073709551615) (hV : V = a1 * 18446744073709551616 + a2) : joinA a1 a2 4 = longA V := by
  have e0 : (a2 % 65536) = dg V 0 := by
    unfold dg
    simp only [show (65536 : Int) ^ 0 = 1 from by decide]
    omega
  have e1 : (a2 / 65536 % 65536) = dg V 1 := by
    unfold dg
    simp only [show (65536 : Int) ^ 1 = 65536 from by decide]
    omega
  have e2 : (a2 / 4294967296 % 65536) = dg V 2 := by
    unfold dg
    simp only [show (65536 : Int) ^ 2 = 4294967296 from by decide]
    omega
  have e3 : (a2 / 281474976710656 % 65536) = dg V 3 := by
    unfold dg
    simp only [show (65536 : Int) ^ 3 = 281474976710656 from by decide]
    omega
  have e4 : (a1 % 65536) = dg V 4 := by
    unfold dg
    simp only [show (65536 : Int) ^ 4 = 18446744073709551616 from by decide]
    omega
  have e5 : (a1 / 65536 % 65536) = dg V 5 := by
    unfold dg
    simp only [show (65536 : Int) ^ 5 = 1208925819614629174706176 from by decide]
    omega
  have e6 : (a1 / 4294967296 % 65536) = dg V 6 := by
    unfold dg
    simp only [show (65536 : Int) ^ 6 = 79228162514264337593543950336 from by decide]
    omega
  have e7 : (a1 / 281474976710656 % 65536) = dg V 7 := by
    unfold dg
    simp only [show (65536 : Int) ^ 7 = 5192296858534827628530496329220096 from by decide]
    omega
  have e8 : (0 : Int) = dg V 8 := by
    unfold dg
    simp only [show (65536 : Int) ^ 8 = 340282366920938463463374607431768211456 from by decide]
    omega
  have e9 : (0 : Int) = dg V 9 := by
    unfold dg
    simp only [show (65536 : Int) ^ 9 = 22300745198530623141535718272648361505980416 from by decide]
    omega
  have e10 : (0 : Int) = dg V 10 := by
    unfold dg
    simp only [show (65536 : Int) ^ 10 = 1461501637330902918203684832716283019655932542976 from by decide]
    omega
  have e11 : (0 : Int) = dg V 11 := by
    unfold dg
    simp only [show (65536 : Int) ^ 11 = 95780971304118053647396689196894323976171195136475136 from by decide]
    omega
  simp only [joinA, longA]
  rw [e0, e1, e2, e3, e4, e5, e6, e7, ← e8, ← e9, ← e10, ← e11]
set_option maxHeartbeats 4000000 in
set_option maxRecDepth 100000 in
theorem Join_0 (a1 a2 V r1 r2 r3 : Int) (w : World) (h1 : 0 ≤ a1 ∧ a1 ≤ 18446744073709551615) (h2 : 0 ≤ a2 ∧ a2 ≤ 18446744073709551615) (hV : V = a1 * 18446744073709551616 + a2) (hr : wans V = (r1, r2, r3)) :
    Calls Try.prog 32 #[.bool false, .int .u64 a1, .int .u64 a2] w fun e w' => e = .returned (.tuple #[.agg #[.int .i64 r1, .int .u64 r2], .int .i64 r3]) ∧ Below w.heap.size w w' := by
  have HE := Lib.hid (join_end h1 h2 hV)
  have HT : ∀ W : World, Hid (Calls Try.prog 34 #[.agg (longA V)] W fun e w' => e = .returned (.tuple #[.agg #[.int .i64 r1, .int .u64 r2], .int .i64 r3]) ∧ Below W.heap.size W w') := fun W => Lib.hid (by
    have := told_any V W (by omega)
    rw [hr] at this
    exact this)
  clear hr hV
  obtain ⟨h1a, h1b⟩ := h1
  obtain ⟨h2a, h2b⟩ := h2
  simp only [longA] at HT
  go_enter Try.func32, Try.ntmps32
  go_wp2_with fail
  go_loopw [9] (fun i wr => ∃ k : Nat, k ≤ 4 ∧ i = .int .i64 k ∧ wr = (w.alloc (.cells #[.int .i64 0, .int .u64 0] 26)).alloc (.cells (joinA a1 a2 k) 54)) (fun i _ => 4 - (intOf i).toNat)
  case atStart => exact ⟨0, by omega, rfl, rfl⟩
  case round =>
    obtain ⟨k, hk, rfl, rfl⟩ := hrel
    rcases (by omega : k = 0 ∨ k = 1 ∨ k = 2 ∨ k = 3 ∨ k = 4) with rfl | rfl | rfl | rfl | rfl
    · simp only [joinA]
      go_wp2_with fail
      go_roundw
      case rel => exact ⟨1, by omega, rfl, rfl⟩
      case measure => simp [intOf]
    · simp only [joinA]
      go_wp2_with fail
      go_roundw
      case rel => exact ⟨2, by omega, rfl, rfl⟩
      case measure => simp [intOf]
    · simp only [joinA]
      go_wp2_with fail
      go_roundw
      case rel => exact ⟨3, by omega, rfl, rfl⟩
      case measure => simp [intOf]
    · simp only [joinA]
      go_wp2_with fail
      go_roundw
      case rel => exact ⟨4, by omega, rfl, rfl⟩
      case measure => simp [intOf]
    · rw [HE.out]
      simp only [longA]
      go_wp2_with fail
      (refine ((HT _).out).mono ?_)
      rintro e w2 ⟨rfl, hb2⟩
      obtain ⟨hc2, hf2⟩ := bcell hb2
      have hy1 : w.heap.size + 1 < w2.heap.size := (by have := hb2.size; simp at this; omega)
      have hy0 : w.heap.size < w2.heap.size := (by omega)
      have q0 : w2.cell? ⟨w.heap.size, 0, none⟩ = some (.int .i64 0) := (by rw [hc2 _ _ (by first | (simp; done) | (simp; omega))]; simp [go_sem])
      have q1 : w2.cell? ⟨w.heap.size, 1, none⟩ = some (.int .u64 0) := (by rw [hc2 _ _ (by first | (simp; done) | (simp; omega))]; simp [go_sem])
      go_wp2_with fail
      exact bodyPost_ret (v := .tuple #[.agg #[.int .i64 r1, .int .u64 r2], .int .i64 r3]) (by simp [results, Try.results32, go_sem, q0, q1]) rfl ⟨rfl, by repeat (with_reducible first | apply below_alloc | apply pw_below_drewN | exact Below.refl _ _ | (refine below_set ?_ (by first | omega | (simp; omega))) | (refine below_next ?_ hb2))⟩
set_option maxHeartbeats 4000000 in
set_option maxRecDepth 100000 in
theorem Join_1 (a1 a2 V r1 r2 r3 : Int) (w : World) (h1 : 0 ≤ a1 ∧ a1 ≤ 18446744073709551615) (h2 : 0 ≤ a2 ∧ a2 ≤ 18446744073709551615) (hV : V = a1 * 18446744073709551616 + a2) (hr : wans (-V) = (r1, r2, r3)) :
    Calls Try.prog 32 #[.bool true, .int .u64 a1, .int .u64 a2] w fun e w' => e = .returned (.tuple #[.agg #[.int .i64 r1, .int .u64 r2], .int .i64 r3]) ∧ Below w.heap.size w w' := by
  have HE := Lib.hid (join_end h1 h2 hV)
  have HT : ∀ W : World, Hid (Calls Try.prog 34 #[.agg (longA (-V))] W fun e w' => e = .returned (.tuple #[.agg #[.int .i64 r1, .int .u64 r2], .int .i64 r3]) ∧ Below W.heap.size W w') := fun W => Lib.hid (by
    have := told_any (-V) W (by omega)
    rw [hr] at this
    exact this)
  have HN := fun W => Lib.hid (Turned_any V W)
  clear hr hV
  obtain ⟨h1a, h1b⟩ := h1
  obtain ⟨h2a, h2b⟩ := h2
  simp only [longA] at HT HN
  go_enter Try.func32, Try.ntmps32
  go_wp2_with fail
  go_loopw [9] (fun i wr => ∃ k : Nat, k ≤ 4 ∧ i = .int .i64 k ∧ wr = (w.alloc (.cells #[.int .i64 0, .int .u64 0] 26)).alloc (.cells (joinA a1 a2 k) 54)) (fun i _ => 4 - (intOf i).toNat)
  case atStart => exact ⟨0, by omega, rfl, rfl⟩
  case round =>
    obtain ⟨k, hk, rfl, rfl⟩ := hrel
    rcases (by omega : k = 0 ∨ k = 1 ∨ k = 2 ∨ k = 3 ∨ k = 4) with rfl | rfl | rfl | rfl | rfl
    · simp only [joinA]
      go_wp2_with fail
      go_roundw
      case rel => exact ⟨1, by omega, rfl, rfl⟩
      case measure => simp [intOf]
    · simp only [joinA]
      go_wp2_with fail
      go_roundw
      case rel => exact ⟨2, by omega, rfl, rfl⟩
      case measure => simp [intOf]
    · simp only [joinA]
      go_wp2_with fail
      go_roundw
      case rel => exact ⟨3, by omega, rfl, rfl⟩
      case measure => simp [intOf]
    · simp only [joinA]
      go_wp2_with fail
      go_roundw
      case rel => exact ⟨4, by omega, rfl, rfl⟩
      case measure => simp [intOf]
    · rw [HE.out]
      simp only [longA]
      go_wp2_with fail
      (refine ((HN _).out).mono ?_)
      rintro e w1 ⟨rfl, hb⟩
      obtain ⟨hc1, hf1⟩ := bcell hb
      have hz1 : w.heap.size + 1 < w1.heap.size := (by have := hb.size; simp at this; omega)
      have hz0 : w.heap.size < w1.heap.size := (by omega)
      have p0 : w1.cell? ⟨w.heap.size, 0, none⟩ = some (.int .i64 0) := (by rw [hc1 _ _ (by simp; omega)]; simp [go_sem])
      have p1 : w1.cell? ⟨w.heap.size, 1, none⟩ = some (.int .u64 0) := (by rw [hc1 _ _ (by simp; omega)]; simp [go_sem])
      go_wp2_with fail
      (refine ((HT _).out).mono ?_)
      rintro e w2 ⟨rfl, hb2⟩
      obtain ⟨hc2, hf2⟩ := bcell hb2
      have hy1 : w.heap.size + 1 < w2.heap.size := (by have := hb2.size; simp at this; omega)
      have hy0 : w.heap.size < w2.heap.size := (by omega)
      have q0 : w2.cell? ⟨w.heap.size, 0, none⟩ = some (.int .i64 0) := (by rw [hc2 _ _ (by first | (simp; done) | (simp; omega))]; simp [go_sem, p0, p1])
      have q1 : w2.cell? ⟨w.heap.size, 1, none⟩ = some (.int .u64 0) := (by rw [hc2 _ _ (by first | (simp; done) | (simp; omega))]; simp [go_sem, p0, p1])
      go_wp2_with fail
      exact bodyPost_ret (v := .tuple #[.agg #[.int .i64 r1, .int .u64 r2], .int .i64 r3]) (by simp [results, Try.results32, go_sem, q0, q1]) rfl ⟨rfl, by repeat (with_reducible first | apply below_alloc | apply pw_below_drewN | exact Below.refl _ _ | (refine below_set ?_ (by first | omega | (simp; omega))) | (refine below_next ?_ hb2) | (refine below_next ?_ hb))⟩
def Join.f (a0 : Bool) (a1 a2 : Int) : Option (Int × Int × Int) := if (0 ≤ a1 ∧ a1 ≤ 18446744073709551615) ∧ (0 ≤ a2 ∧ a2 ≤ 18446744073709551615) then some (wans (if a0 = true then -(a1 * 18446744073709551616 + a2) else (a1 * 18446744073709551616 + a2))) else none
theorem Join.calls (a0 : Bool) (a1 a2 r1 r2 r3 : Int) (w : World) (h : Join.f a0 a1 a2 = some (r1, r2, r3)) :
    Calls Try.prog 32 #[.bool a0, .int .u64 a1, .int .u64 a2] w fun e w' => e = .returned (.tuple #[.agg #[.int .i64 r1, .int .u64 r2], .int .i64 r3]) ∧ Below w.heap.size w w' := by
  unfold Join.f at h
  split at h
  · rename_i hb
    cases a0 with
    | false => exact Join_0 a1 a2 _ r1 r2 r3 w hb.1 hb.2 rfl (Option.some.inj h)
    | true => exact Join_1 a1 a2 _ r1 r2 r3 w hb.1 hb.2 rfl (Option.some.inj h)
  · cases h
set_option maxHeartbeats 4000000 in
set_option maxRecDepth 100000 in
theorem Abs_pos (h l V : Int) (w : World) (hD : ∀ W : World, Calls Try.prog 36 #[.agg #[.int .i64 h, .int .u64 l]] W fun e w' => e = .returned (.agg (longA V)) ∧ Below W.heap.size W w')
    (hn : decide (32768 ≤ dg V 11) = false) (hU : 0 ≤ V ∧ V < 340282366920938463463374607431768211456) :
    Calls Try.prog 30 #[.agg #[.int .i64 h, .int .u64 l]] w fun e w' => e = .returned (.tuple #[.int .u64 (V / 18446744073709551616), .int .u64 (V % 18446744073709551616)]) ∧ Below w.heap.size w w' := by
  have HE1 : Hid (part V 4 4 = V / 18446744073709551616) := Lib.hid (by unfold part; simp only [show (65536 : Int) ^ 4 = 18446744073709551616 from by decide]; omega)
  have HE2 : Hid (part V 0 4 = V % 18446744073709551616) := Lib.hid (by unfold part; simp only [show (65536 : Int) ^ 0 = 1 from by decide, show (65536 : Int) ^ 4 = 18446744073709551616 from by decide]; omega)
  have HB : ∀ W : World, Hid (Calls Try.prog 39 #[.agg (longA V)] W fun e w' => e = .returned (.bool false) ∧ Below W.heap.size W w') := fun W => Lib.hid (by have := IsBelow_any V W; rw [hn] at this; exact this)
  have HD := fun W => Lib.hid (hD W)
  clear hD hn hU
  simp only [longA] at HB HD
  obtain ⟨hv0a, hv0b⟩ := dg_in V 0
  obtain ⟨hv1a, hv1b⟩ := dg_in V 1
  obtain ⟨hv2a, hv2b⟩ := dg_in V 2
  obtain ⟨hv3a, hv3b⟩ := dg_in V 3
  obtain ⟨hv4a, hv4b⟩ := dg_in V 4
  obtain ⟨hv5a, hv5b⟩ := dg_in V 5
  obtain ⟨hv6a, hv6b⟩ := dg_in V 6
  obtain ⟨hv7a, hv7b⟩ := dg_in V 7
  obtain ⟨p31a, p31b⟩ := part_in1 V 3
  obtain ⟨p22a, p22b⟩ := part_in2 V 2
  obtain ⟨p13a, p13b⟩ := part_in3 V 1
  obtain ⟨p04a, p04b⟩ := part_in4 V 0
  obtain ⟨p71a, p71b⟩ := part_in1 V 7
  obtain ⟨p62a, p62b⟩ := part_in2 V 6
  obtain ⟨p53a, p53b⟩ := part_in3 V 5
  obtain ⟨p44a, p44b⟩ := part_in4 V 4
  obtain ⟨p40a, p40b⟩ := part_in0 V 4
  obtain ⟨p80a, p80b⟩ := part_in0 V 8
  go_enter Try.func30, Try.ntmps30
  go_wp2_with fail
  refine ((HD _).out).mono ?_
  rintro e w1 ⟨rfl, hb1⟩
  obtain ⟨hc1, hf1⟩ := bcell hb1
  have hz1 : w.heap.size < w1.heap.size := (by have := hb1.size; simp at this; omega)
  go_wp2_with fail
  refine ((HB _).out).mono ?_
  rintro e w2 ⟨rfl, hb2⟩
  obtain ⟨hc2, hf2⟩ := bcell hb2
  have hz2 : w1.heap.size < w2.heap.size := (by have := hb2.size; simp at this; omega)
  go_wp2_with fail
  go_loop [5, 6, 7] (fun hi lo i => ∃ k : Nat, k ≤ 4 ∧ i = .int .i64 (iAt k) ∧ lo = .int .u64 (part V (4 - k) k) ∧ hi = .int .u64 (part V (8 - k) k)) (fun _ _ i => (intOf i + 1).toNat)
  case atStart => exact ⟨0, by omega, rfl, by simp [part], by simp [part]⟩
  case round =>
    obtain ⟨k, hk, rfl, rfl, rfl⟩ := hrel
    rcases (by omega : k = 0 ∨ k = 1 ∨ k = 2 ∨ k = 3 ∨ k = 4) with rfl | rfl | rfl | rfl | rfl
    · simp only [iAt, Nat.reduceSub]
      go_wp2_with fail
      go_round
      case rel => exact ⟨1, by omega, rfl, by rw [← part_3_0], by rw [← part_7_0]⟩
      case measure => simp [intOf]
    · simp only [iAt, Nat.reduceSub]
      go_wp2_with fail
      go_round
      case rel => exact ⟨2, by omega, rfl, by rw [← part_2_1], by rw [← part_6_1]⟩
      case measure => simp [intOf]
    · simp only [iAt, Nat.reduceSub]
      go_wp2_with fail
      go_round
      case rel => exact ⟨3, by omega, rfl, by rw [← part_1_2], by rw [← part_5_2]⟩
      case measure => simp [intOf]
    · simp only [iAt, Nat.reduceSub]
      go_wp2_with fail
      go_round
      case rel => exact ⟨4, by omega, rfl, by rw [← part_0_3], by rw [← part_4_3]⟩
      case measure => simp [intOf]
    · simp only [iAt, Nat.reduceSub]
      go_wp2_with fail
      go_ret2
      exact ⟨by rw [HE1.out, HE2.out]; rfl, by repeat (with_reducible first | apply below_alloc | apply pw_below_drewN | exact Below.refl _ _ | (refine below_set ?_ (by first | omega | (simp; omega))) | (refine below_next ?_ hb2) | (refine below_next ?_ hb1))⟩
set_option maxHeartbeats 4000000 in
set_option maxRecDepth 100000 in
theorem Abs_neg (h l V : Int) (w : World) (hD : ∀ W : World, Calls Try.prog 36 #[.agg #[.int .i64 h, .int .u64 l]] W fun e w' => e = .returned (.agg (longA V)) ∧ Below W.heap.size W w')
    (hn : decide (32768 ≤ dg V 11) = true) (hU : 0 ≤ (-V) ∧ (-V) < 340282366920938463463374607431768211456) :
    Calls Try.prog 30 #[.agg #[.int .i64 h, .int .u64 l]] w fun e w' => e = .returned (.tuple #[.int .u64 ((-V) / 18446744073709551616), .int .u64 ((-V) % 18446744073709551616)]) ∧ Below w.heap.size w w' := by
  have HE1 : Hid (part (-V) 4 4 = (-V) / 18446744073709551616) := Lib.hid (by unfold part; simp only [show (65536 : Int) ^ 4 = 18446744073709551616 from by decide]; omega)
  have HE2 : Hid (part (-V) 0 4 = (-V) % 18446744073709551616) := Lib.hid (by unfold part; simp only [show (65536 : Int) ^ 0 = 1 from by decide, show (65536 : Int) ^ 4 = 18446744073709551616 from by decide]; omega)
  have HB : ∀ W : World, Hid (Calls Try.prog 39 #[.agg (longA V)] W fun e w' => e = .returned (.bool true) ∧ Below W.heap.size W w') := fun W => Lib.hid (by have := IsBelow_any V W; rw [hn] at this; exact this)
  have HD := fun W => Lib.hid (hD W)
  have HN := fun W => Lib.hid (Turned_any V W)
  clear hD hn hU
  simp only [longA] at HB HD HN
  obtain ⟨hv0a, hv0b⟩ := dg_in (-V) 0
  obtain ⟨hv1a, hv1b⟩ := dg_in (-V) 1
  obtain ⟨hv2a, hv2b⟩ := dg_in (-V) 2
  obtain ⟨hv3a, hv3b⟩ := dg_in (-V) 3
  obtain ⟨hv4a, hv4b⟩ := dg_in (-V) 4
  obtain ⟨hv5a, hv5b⟩ := dg_in (-V) 5
  obtain ⟨hv6a, hv6b⟩ := dg_in (-V) 6
  obtain ⟨hv7a, hv7b⟩ := dg_in (-V) 7
  obtain ⟨p31a, p31b⟩ := part_in1 (-V) 3
  obtain ⟨p22a, p22b⟩ := part_in2 (-V) 2
  obtain ⟨p13a, p13b⟩ := part_in3 (-V) 1
  obtain ⟨p04a, p04b⟩ := part_in4 (-V) 0
  obtain ⟨p71a, p71b⟩ := part_in1 (-V) 7
  obtain ⟨p62a, p62b⟩ := part_in2 (-V) 6
  obtain ⟨p53a, p53b⟩ := part_in3 (-V) 5
  obtain ⟨p44a, p44b⟩ := part_in4 (-V) 4
  obtain ⟨p40a, p40b⟩ := part_in0 (-V) 4
  obtain ⟨p80a, p80b⟩ := part_in0 (-V) 8
  go_enter Try.func30, Try.ntmps30
  go_wp2_with fail
  refine ((HD _).out).mono ?_
  rintro e w1 ⟨rfl, hb1⟩
  obtain ⟨hc1, hf1⟩ := bcell hb1
  have hz1 : w.heap.size < w1.heap.size := (by have := hb1.size; simp at this; omega)
  go_wp2_with fail
  refine ((HB _).out).mono ?_
  rintro e w2 ⟨rfl, hb2⟩
  obtain ⟨hc2, hf2⟩ := bcell hb2
  have hz2 : w1.heap.size < w2.heap.size := (by have := hb2.size; simp at this; omega)
  go_wp2_with fail
  refine ((HN _).out).mono ?_
  rintro e w3 ⟨rfl, hb3⟩
  obtain ⟨hc3, hf3⟩ := bcell hb3
  have hz3 : w1.heap.size < w3.heap.size := (by have := hb3.size; omega)
  go_wp2_with fail
  go_loop [5, 6, 7] (fun hi lo i => ∃ k : Nat, k ≤ 4 ∧ i = .int .i64 (iAt k) ∧ lo = .int .u64 (part (-V) (4 - k) k) ∧ hi = .int .u64 (part (-V) (8 - k) k)) (fun _ _ i => (intOf i + 1).toNat)
  case atStart => exact ⟨0, by omega, rfl, by simp [part], by simp [part]⟩
  case round =>
    obtain ⟨k, hk, rfl, rfl, rfl⟩ := hrel
    rcases (by omega : k = 0 ∨ k = 1 ∨ k = 2 ∨ k = 3 ∨ k = 4) with rfl | rfl | rfl | rfl | rfl
    · simp only [iAt, Nat.reduceSub]
      go_wp2_with fail
      go_round
      case rel => exact ⟨1, by omega, rfl, by rw [← part_3_0], by rw [← part_7_0]⟩
      case measure => simp [intOf]
    · simp only [iAt, Nat.reduceSub]
      go_wp2_with fail
      go_round
      case rel => exact ⟨2, by omega, rfl, by rw [← part_2_1], by rw [← part_6_1]⟩
      case measure => simp [intOf]
    · simp only [iAt, Nat.reduceSub]
      go_wp2_with fail
      go_round
      case rel => exact ⟨3, by omega, rfl, by rw [← part_1_2], by rw [← part_5_2]⟩
      case measure => simp [intOf]
    · simp only [iAt, Nat.reduceSub]
      go_wp2_with fail
      go_round
      case rel => exact ⟨4, by omega, rfl, by rw [← part_0_3], by rw [← part_4_3]⟩
      case measure => simp [intOf]
    · simp only [iAt, Nat.reduceSub]
      go_wp2_with fail
      go_ret2
      exact ⟨by rw [HE1.out, HE2.out]; rfl, by repeat (with_reducible first | apply below_alloc | apply pw_below_drewN | exact Below.refl _ _ | (refine below_set ?_ (by first | omega | (simp; omega))) | (refine below_next ?_ hb3) | (refine below_next ?_ hb2) | (refine below_next ?_ hb1))⟩
instance (h l : Int) : Decidable (WB h l) := by unfold WB; infer_instance
def Abs.f (a0_0 a0_1 : Int) : Option (Int × Int) := if WB a0_0 a0_1 then some ((if wv a0_0 a0_1 < 0 then -wv a0_0 a0_1 else wv a0_0 a0_1) / 18446744073709551616, (if wv a0_0 a0_1 < 0 then -wv a0_0 a0_1 else wv a0_0 a0_1) % 18446744073709551616) else none
theorem Digits_any (h l : Int) (w : World) (b : WB h l) : Calls Try.prog 36 #[.agg #[.int .i64 h, .int .u64 l]] w fun e w' => e = .returned (.agg (longA (wv h l))) ∧ Below w.heap.size w w' := by
  rcases Int.lt_or_le h 0 with hs | hs
  · exact Digits_neg _ _ w b.1 b.2 hs
  · exact Digits_pos _ _ w b.1 b.2 hs
theorem Abs.calls (a0_0 a0_1 r1 r2 : Int) (w : World) (h : Abs.f a0_0 a0_1 = some (r1, r2)) :
    Calls Try.prog 30 #[.agg #[.int .i64 a0_0, .int .u64 a0_1]] w fun e w' => e = .returned (.tuple #[.int .u64 r1, .int .u64 r2]) ∧ Below w.heap.size w w' := by
  unfold Abs.f at h
  split at h
  · rename_i hb
    have hv := wv_in hb
    have hB := IsBelow_f (V := wv a0_0 a0_1) (by omega)
    unfold IsBelow.f at hB
    rw [if_pos (bnd_dg _)] at hB
    have hB := Option.some.inj hB
    obtain ⟨rfl, rfl⟩ := by simpa only [Option.some.injEq, Prod.mk.injEq] using h
    by_cases hs : wv a0_0 a0_1 < 0
    · rw [if_pos hs]
      exact Abs_neg _ _ _ w (fun W => Digits_any _ _ W hb) (by rw [hB]; exact decide_eq_true hs) (by omega)
    · rw [if_neg hs]
      exact Abs_pos _ _ _ w (fun W => Digits_any _ _ W hb) (by rw [hB]; exact decide_eq_false hs) (by omega)
  · cases h
theorem eqi_cons {P : Program} {d : Nat} {e c i : Nat} {is : List Nat} {xs ys : Array Value} {a b : Value} {r s : Bool} {w : World} (ha : (Go.part e xs (i * c)).run P w = .ok a w) (hb : (Go.part e ys (i * c)).run P w = .ok b w) (he : (Op.equalIn d e a b).run P w = .ok r w)
    (hr : (Op.eqItems d e c xs ys is).run P w = .ok s w) : (Op.eqItems d e c xs ys (i :: is)).run P w = .ok (r && s) w := by
  simp only [Op.eqItems, Sem.run_bind, ha, hb, he, Result.andThen_ok]
  cases r
  · simp
  · simpa using hr
theorem _root_.Go.Proofs.Ytehmkffmnaabaaa.eqA54 (d : Nat) (w : World) (x0 x1 x2 x3 x4 x5 x6 x7 x8 x9 x10 x11 y0 y1 y2 y3 y4 y5 y6 y7 y8 y9 y10 y11 : Int) :
    (Op.equalIn (d + 2) 54 (.agg #[.int .u64 x0, .int .u64 x1, .int .u64 x2, .int .u64 x3, .int .u64 x4, .int .u64 x5, .int .u64 x6, .int .u64 x7, .int .u64 x8, .int .u64 x9, .int .u64 x10, .int .u64 x11]) (.agg #[.int .u64 y0, .int .u64 y1, .int .u64 y2, .int .u64 y3, .int .u64 y4, .int .u64 y5, .int .u64 y6, .int .u64 y7, .int .u64 y8, .int .u64 y9, .int .u64 y10, .int .u64 y11])).run Try.prog w = .ok (x0 == y0 && (x1 == y1 && (x2 == y2 && (x3 == y3 && (x4 == y4 && (x5 == y5 && (x6 == y6 && (x7 == y7 && (x8 == y8 && (x9 == y9 && (x10 == y10 && (x11 == y11)))))))))))) w := by
  obtain ⟨i, hi⟩ := Option.isSome_iff_exists.mp (by kernel_rfl : (Try.prog.info? 24).isSome = true)
  rw [run_equalIn_array w (d + 1) _ _ (n := 12) (e := 24) Try.underlying54 hi]
  rw [show List.range 12 = [0, 1, 2, 3, 4, 5, 6, 7, 8, 9, 10, 11] from by decide, show Try.prog.cellsOf 24 = 1 from by kernel_rfl]
  refine eqi_cons (by go_simp; rfl) (by go_simp; rfl) (by go_simp) ?_
  refine eqi_cons (by go_simp; rfl) (by go_simp; rfl) (by go_simp) ?_
  refine eqi_cons (by go_simp; rfl) (by go_simp; rfl) (by go_simp) ?_
  refine eqi_cons (by go_simp; rfl) (by go_simp; rfl) (by go_simp) ?_
  refine eqi_cons (by go_simp; rfl) (by go_simp; rfl) (by go_simp) ?_
  refine eqi_cons (by go_simp; rfl) (by go_simp; rfl) (by go_simp) ?_
  refine eqi_cons (by go_simp; rfl) (by go_simp; rfl) (by go_simp) ?_
  refine eqi_cons (by go_simp; rfl) (by go_simp; rfl) (by go_simp) ?_
  refine eqi_cons (by go_simp; rfl) (by go_simp; rfl) (by go_simp) ?_
  refine eqi_cons (by go_simp; rfl) (by go_simp; rfl) (by go_simp) ?_
  refine eqi_cons (by go_simp; rfl) (by go_simp; rfl) (by go_simp) ?_
  refine (eqi_cons (by go_simp; rfl) (by go_simp; rfl) (by go_simp; rfl) (s := true) (by simp [Op.eqItems])).trans ?_
  rw [Bool.and_true]
end Go.Proofs.Ytehmkffmnaabaaa.Ref01
