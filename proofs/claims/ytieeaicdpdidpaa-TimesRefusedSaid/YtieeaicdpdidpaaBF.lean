/-
  math/bits.Len64: how many binary digits a word has: the library's contract at this seat's own numbers. No condition but that the word is a word (else the printed function is none).
-/
import Derived.Test.YtieeaicdpdidpaaProg
import Derived.Test.YtieeaicdpdidpaaWWords
import Derived.Shelf.Strconv.Itoa0
import Derived.KernelRfl
import Derived.Below
namespace Go.Proofs.Ytieeaicdpdidpaa.BF
open Go.RowKit Go.Shelf Go.Proofs.YtieeaicdpdidpaaW.PrintWords
def rho : Ren := { f := fun _ => 52, t := fun n => if n = 3 then 3 else if n = 4 then 4 else if n = 5 then 5 else if n = 9 then 9 else if n = 46 then 55 else if n = 53 then 24 else 0, g := fun n => n }
theorem lays : Lays.n129 Try.prog rho where
  mixed := by kernel_rfl
  f129 := by kernel_rfl
  t3 := by kernel_rfl
  a3 := fun w => by kernel_rfl
  z3 := fun w => by kernel_rfl
  v3 := fun w => by kernel_rfl
  t4 := by kernel_rfl
  a4 := fun w => by kernel_rfl
  z4 := fun w => by kernel_rfl
  v4 := fun w => by kernel_rfl
  t5 := by kernel_rfl
  a5 := fun w => by kernel_rfl
  z5 := fun w => by kernel_rfl
  v5 := fun w => by kernel_rfl
  t9 := by kernel_rfl
  a9 := fun w => by kernel_rfl
  z9 := fun w => by kernel_rfl
  v9 := fun w => by kernel_rfl
  t46 := by kernel_rfl
  a46 := fun w => by kernel_rfl
  z46 := fun w => by kernel_rfl
  v46 := fun w => by kernel_rfl
  t53 := by kernel_rfl
  a53 := fun w => by kernel_rfl
  z53 := fun w => by kernel_rfl
  v53 := fun w => by kernel_rfl
def Len64.f (a0 : Int) : Option Int := if 0 ≤ a0 ∧ a0 ≤ 18446744073709551615 then some (Lib.bitLen a0.toNat) else none
theorem Len64.calls (a0 r : Int) (w : World) (h : Len64.f a0 = some r) : Calls Try.prog 52 #[.int .u64 a0] w fun e w' => e = .returned (.int .i64 r) ∧ Below w.heap.size w w' := by
  unfold Len64.f at h
  split at h
  · rename_i hb
    obtain rfl := Option.some.inj h
    exact (Any.bits_Len64 lays a0 w hb.1 hb.2).mono fun e w' ⟨he, hw⟩ => ⟨he, hw ▸ Below.refl _ _⟩
  · cases h
end Go.Proofs.Ytieeaicdpdidpaa.BF
