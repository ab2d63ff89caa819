/-
  The run equations of math/bits.Add64 and Sub64, for which the model stands in, at this seat's function numbers: no conditions but a carry of at most 1.
-/
import Derived.Test.YtieeaicdpdidpaaProg
import Derived.Laws.Externs
import Derived.KernelRfl
namespace Go.Proofs.Ytieeaicdpdidpaa
open Go
def add64Lo (x y c : Int) : Int := (((x.toNat + y.toNat + c.toNat) % 18446744073709551616 : Nat) : Int)
def add64Hi (x y c : Int) : Int := (((x.toNat + y.toNat + c.toNat) / 18446744073709551616 : Nat) : Int)
def sub64Lo (x y b : Int) : Int := (((x.toNat + 18446744073709551616 - y.toNat - b.toNat) % 18446744073709551616 : Nat) : Int)
def sub64Hi (x y b : Int) : Int := ((if x.toNat < y.toNat + b.toNat then 1 else 0 : Nat) : Int)
def sub64Entry : Array Value → Sem Value := fun args => do
  let (x, y, b) ← Extern.MathBitsCarry.three "Sub64" args
  pure (Extern.MathBitsCarry.pair ((x + Extern.MathBitsCarry.m64 - y - b) % Extern.MathBitsCarry.m64) (if x < y + b then 1 else 0))
theorem three_run {P : Program} (nm : String) (x y c : Int) (hc : c.toNat ≤ 1) (w : World) :
    (Extern.MathBitsCarry.three nm #[.int .u64 x, .int .u64 y, .int .u64 c]).run P w = .ok (x.toNat, y.toNat, c.toNat) w := by
  change Sem.run P (do
    let c := (← asInt (.int .u64 c)).toNat
    if c > 1 then unsupported (.noEntry ("extern/math/bits." ++ nm ++ ": a carry that is neither 0 nor 1"))
    pure ((← asInt (.int .u64 x)).toNat, (← asInt (.int .u64 y)).toNat, c)) w = _
  simp [asInt, asIntOf, Sem.run_pure, Result.andThen]
  omega
theorem run_add64E {P : Program} (x y c : Int) (hc : c.toNat ≤ 1) (w : World) :
    (add64Entry #[.int .u64 x, .int .u64 y, .int .u64 c]).run P w = .ok (.tuple #[.int .u64 (add64Lo x y c), .int .u64 (add64Hi x y c)]) w := by
  unfold add64Entry
  rw [Sem.run_bind, three_run _ _ _ _ hc]; rfl
theorem run_sub64E {P : Program} (x y c : Int) (hc : c.toNat ≤ 1) (w : World) :
    (sub64Entry #[.int .u64 x, .int .u64 y, .int .u64 c]).run P w = .ok (.tuple #[.int .u64 (sub64Lo x y c), .int .u64 (sub64Hi x y c)]) w := by
  unfold sub64Entry
  rw [Sem.run_bind, three_run _ _ _ _ hc]; rfl
theorem run_add64 (x y c : Int) (hc : decide (c ≤ 1) = true) (w : World) : (callFunc 28 #[.int .u64 x, .int .u64 y, .int .u64 c]).run Try.prog w =
    .ok (.value (.tuple #[.int .u64 (add64Lo x y c), .int .u64 (add64Hi x y c)])) w := by
  rw [run_callFunc_extern Try.func28 (by kernel_rfl) (by kernel_rfl) (by kernel_rfl) (e := add64Entry) (by kernel_rfl), run_add64E x y c (by have := of_decide_eq_true hc; omega)]; rfl
theorem run_sub64 (x y c : Int) (hc : decide (c ≤ 1) = true) (w : World) : (callFunc 42 #[.int .u64 x, .int .u64 y, .int .u64 c]).run Try.prog w =
    .ok (.value (.tuple #[.int .u64 (sub64Lo x y c), .int .u64 (sub64Hi x y c)])) w := by
  rw [run_callFunc_extern Try.func42 (by kernel_rfl) (by kernel_rfl) (by kernel_rfl) (e := sub64Entry) (by kernel_rfl), run_sub64E x y c (by have := of_decide_eq_true hc; omega)]; rfl
end Go.Proofs.Ytieeaicdpdidpaa
