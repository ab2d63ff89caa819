/- What each function comes to, told as a Lean function, and that the machine does so. No condition. -/
import Derived.Test.YtgdnleanagclaaaGE1
import Derived.Test.YtgdnleanagclaaaProg
namespace Go.Proofs.Ytgdnleanagclaaa.E
open Go
set_option linter.unusedVariables false
abbrev T2 : Type := Int
def τ : Nat → Type := fun e => bif Nat.beq e 2 then T2 else Unit
theorem τ_else {e : Nat} (h2 : ¬ e = 2) : τ e = Unit := by simp [τ, beq_false h2]
def κ : (e : Nat) → K τ (τ e) := fun e => if h2 : e = 2 then h2 ▸ (show K τ (τ 2) from ((.int .i64) : K τ T2)) else cast (congrArg (K τ) (τ_else h2).symm) K.unit
end Go.Proofs.Ytgdnleanagclaaa.E
namespace Go.Proofs.Ytgdnleanagclaaa.E
open Go
set_option linter.unusedVariables false
set_option maxRecDepth 100000
abbrev A22 : Type := (Int × Unit)
abbrev B22 : Type := ((Int × Int) × Unit)
def i22 : Fr τ A22 := (.val 0 (.int .i64) .nil)
def o22 : Fr τ B22 := (.val 1000 (.pair (.int .i64) (.int .u64)) .nil)
def G22 : Nat → Option (Ctr τ) := tabG []
def M22 : A22 → Option B22 := fun ⟨v', ()⟩ => (let v0 : Int := Int.fdiv v' 9223372036854775808; let v1 : Int := IntKind.wrap IntKind.u64 v'; some ((v0, v1), ()))
def N22 : A22 → Option B22 := M22
def C22 : Ctr τ := ⟨i22, o22, N22⟩
theorem g22 : GOK κ Try.prog (G22) := gok_nil
theorem lall22 : ∀ Z : Zn, Z.rl = C22.o.keeps → Try.f22.ntmps ≤ Z.nt → ∀ p ∈ loops 0 (bodyOf Try.f22), ∀ C, (tabL []) p.1 = some C → LoopOK κ Try.prog Z p.2 C := fun Z h n => fun p hp => (by cases (show p ∈ ([] : List (Nat × Code)) from hp))
theorem e22 : ∀ x, M22 x = fnE Try.prog κ (G22) (tabL []) Try.f22 i22 o22 x := fun x => by kernel_rfl
theorem s22 : Sound κ Try.prog C22 22 := fn_sound (S := (tabL [])) (F := Try.f22) (code := bodyOf Try.f22) (by kernel_rfl) g22 Try.func22 (by kernel_rfl) (by kernel_rfl) (by kernel_rfl) lall22 (by kernel_rfl) (by kernel_rfl) fun x y h => (e22 x).symm.trans h
end Go.Proofs.Ytgdnleanagclaaa.E
namespace Go.Proofs.Ytgdnleanagclaaa.E
open Go
set_option linter.unusedVariables false
set_option maxRecDepth 100000
abbrev A21 : Type := (Int × Int × Int × Unit)
abbrev B21 : Type := (((Int × Int) × ((Int × Int) × (Int × Int))) × Unit)
def i21 : Fr τ A21 := (.val 0 (.int .i64) (.val 1 (.int .i64) (.val 2 (.int .i64) .nil)))
def o21 : Fr τ B21 := (.val 1000 (.pair (.pair (.int .i64) (.int .u64)) (.pair (.pair (.int .i64) (.int .u64)) (.pair (.int .i64) (.int .u64)))) .nil)
def G21 (c22 : A22 → Option B22) : Nat → Option (Ctr τ) := tabG [(22, (⟨i22, o22, c22⟩ : Ctr τ))]
def M21 (c22 : A22 → Option B22) : A21 → Option B21 := fun ⟨a', ⟨b', ⟨c', ()⟩⟩⟩ => ((c22 (a', ())).bind fun ⟨⟨y0_0, y0_1⟩, ()⟩ => ((c22 (b', ())).bind fun ⟨⟨y1_0, y1_1⟩, ()⟩ => ((c22 (c', ())).bind fun ⟨⟨y2_0, y2_1⟩, ()⟩ => (some (((y0_0, y0_1), ((y1_0, y1_1), (y2_0, y2_1))), ())))))
def N21 : A21 → Option B21 := M21 N22
def C21 : Ctr τ := ⟨i21, o21, N21⟩
theorem g21 : GOK κ Try.prog (G21 N22) := (gok_cons s22 gok_nil)
theorem lall21 : ∀ Z : Zn, Z.rl = C21.o.keeps → Try.f21.ntmps ≤ Z.nt → ∀ p ∈ loops 0 (bodyOf Try.f21), ∀ C, (tabL []) p.1 = some C → LoopOK κ Try.prog Z p.2 C := fun Z h n => fun p hp => (by cases (show p ∈ ([] : List (Nat × Code)) from hp))
theorem e21 : ∀ (c22 : A22 → Option B22) x, M21 c22 x = fnE Try.prog κ (G21 c22) (tabL []) Try.f21 i21 o21 x := fun c22 x => by kernel_rfl
theorem s21 : Sound κ Try.prog C21 21 := fn_sound (S := (tabL [])) (F := Try.f21) (code := bodyOf Try.f21) (by kernel_rfl) g21 Try.func21 (by kernel_rfl) (by kernel_rfl) (by kernel_rfl) lall21 (by kernel_rfl) (by kernel_rfl) fun x y h => (e21 N22 x).symm.trans h
end Go.Proofs.Ytgdnleanagclaaa.E
namespace Go.Proofs.Ytgdnleanagclaaa.E
open Go
set_option linter.unusedVariables false
set_option maxRecDepth 100000
abbrev A23 : Type := (Int × Int × Unit)
abbrev B23 : Type := (Bool × Unit)
def i23 : Fr τ A23 := (.val 0 (.int .i64) (.val 1 (.int .i64) .nil))
def o23 : Fr τ B23 := (.val 1000 .bool .nil)
def G23 : Nat → Option (Ctr τ) := tabG []
def M23 : A23 → Option B23 := fun ⟨size', ⟨q', ()⟩⟩ => (bif decide (size' ≥ 1) then (bif decide (size' ≤ 1000000000000) then (bif decide (q' ≥ 0) then (some (decide (q' ≤ 1099511627776), ())) else (some (false, ()))) else (some (false, ()))) else (some (false, ())))
def N23 : A23 → Option B23 := M23
def C23 : Ctr τ := ⟨i23, o23, N23⟩
theorem g23 : GOK κ Try.prog (G23) := gok_nil
theorem lall23 : ∀ Z : Zn, Z.rl = C23.o.keeps → Try.f23.ntmps ≤ Z.nt → ∀ p ∈ loops 0 (bodyOf Try.f23), ∀ C, (tabL []) p.1 = some C → LoopOK κ Try.prog Z p.2 C := fun Z h n => fun p hp => (by cases (show p ∈ ([] : List (Nat × Code)) from hp))
theorem e23 : ∀ x, M23 x = fnE Try.prog κ (G23) (tabL []) Try.f23 i23 o23 x := fun x => by kernel_rfl
theorem s23 : Sound κ Try.prog C23 23 := fn_sound (S := (tabL [])) (F := Try.f23) (code := bodyOf Try.f23) (by kernel_rfl) g23 Try.func23 (by kernel_rfl) (by kernel_rfl) (by kernel_rfl) lall23 (by kernel_rfl) (by kernel_rfl) fun x y h => (e23 x).symm.trans h
end Go.Proofs.Ytgdnleanagclaaa.E
namespace Go.Proofs.Ytgdnleanagclaaa.E
open Go
set_option linter.unusedVariables false
set_option maxRecDepth 100000
abbrev A51 : Type := ((Int × Int) × Unit)
abbrev B51 : Type := (Int × Int × Unit)
def i51 : Fr τ A51 := (.val 0 (.pair (.int .i64) (.int .u64)) .nil)
def o51 : Fr τ B51 := (.val 1000 (.int .u64) (.val 1001 (.int .u64) .nil))
def G51 (c66 : (Int × Int × Int × Unit) → Option (Int × Int × Unit)) : Nat → Option (Ctr τ) := tabG [(66, ({ (cSub64 (τ := τ)) with f := c66 } : Ctr τ))]
def M51 (c66 : (Int × Int × Int × Unit) → Option (Int × Int × Unit)) : A51 → Option B51 := fun ⟨⟨w'_0, w'_1⟩, ()⟩ => (bif decide (w'_0 ≥ 0) then (let v0 : Int := IntKind.wrap IntKind.u64 w'_0; some (v0, (w'_1, ()))) else ((c66 (0, (w'_1, (0, ())))).bind fun ⟨y1_0, ⟨y1_1, ()⟩⟩ => (let v0 : Int := IntKind.wrap IntKind.u64 w'_0; (c66 (0, (v0, (y1_1, ())))).bind fun ⟨y2_0, ⟨y2_1, ()⟩⟩ => (some (y2_0, (y1_0, ()))))))
def N51 : A51 → Option B51 := M51 (cSub64 (τ := τ)).f
def C51 : Ctr τ := ⟨i51, o51, N51⟩
theorem t51_66 : Sound κ Try.prog cSub64 66 := sub64_sound Try.func66 (by kernel_rfl) (by kernel_rfl) (by kernel_rfl) (by kernel_rfl)
theorem g51 : GOK κ Try.prog (G51 (cSub64 (τ := τ)).f) := (gok_cons t51_66 gok_nil)
theorem lall51 : ∀ Z : Zn, Z.rl = C51.o.keeps → Try.f51.ntmps ≤ Z.nt → ∀ p ∈ loops 0 (bodyOf Try.f51), ∀ C, (tabL []) p.1 = some C → LoopOK κ Try.prog Z p.2 C := fun Z h n => fun p hp => (by cases (show p ∈ ([] : List (Nat × Code)) from hp))
theorem e51 : ∀ (c66 : (Int × Int × Int × Unit) → Option (Int × Int × Unit)) x, M51 c66 x = fnE Try.prog κ (G51 c66) (tabL []) Try.f51 i51 o51 x := fun c66 x => by kernel_rfl
theorem s51 : Sound κ Try.prog C51 51 := fn_sound (S := (tabL [])) (F := Try.f51) (code := bodyOf Try.f51) (by kernel_rfl) g51 Try.func51 (by kernel_rfl) (by kernel_rfl) (by kernel_rfl) lall51 (by kernel_rfl) (by kernel_rfl) fun x y h => (e51 (cSub64 (τ := τ)).f x).symm.trans h
end Go.Proofs.Ytgdnleanagclaaa.E
namespace Go.Proofs.Ytgdnleanagclaaa.E
open Go
set_option linter.unusedVariables false
set_option maxRecDepth 100000
abbrev A52 : Type := (Int × Int × Unit)
abbrev B52 : Type := (Int × Int × Unit)
def i52 : Fr τ A52 := (.val 0 (.int .u64) (.val 1 (.int .u64) .nil))
def o52 : Fr τ B52 := (.val 1000 (.int .u64) (.val 1001 (.int .u64) .nil))
def G52 : Nat → Option (Ctr τ) := tabG []
def M52 : A52 → Option B52 := fun ⟨x', ⟨y', ()⟩⟩ => (let v0 : Int := Int.fdiv x' 4294967296; let v1 : Int := Int.fdiv y' 4294967296; let v2 : Int := v0 * v1; let v3 : Int := IntKind.wrap IntKind.u64 v2; let v4 : Int := ↑(BitVec.toNat (BitVec.ofInt 64 y' &&& BitVec.ofInt 64 4294967295)); let v5 : Int := IntKind.wrap IntKind.u64 v4; let v6 : Int := v0 * v5; let v7 : Int := IntKind.wrap IntKind.u64 v6; let v8 : Int := ↑(BitVec.toNat (BitVec.ofInt 64 x' &&& BitVec.ofInt 64 4294967295)); let v9 : Int := IntKind.wrap IntKind.u64 v8; let v10 : Int := v9 * v5; let v11 : Int := IntKind.wrap IntKind.u64 v10; let v12 : Int := Int.fdiv v11 4294967296; let v13 : Int := v7 + v12; let v14 : Int := IntKind.wrap IntKind.u64 v13; let v15 : Int := Int.fdiv v14 4294967296; let v16 : Int := v3 + v15; let v17 : Int := IntKind.wrap IntKind.u64 v16; let v18 : Int := ↑(BitVec.toNat (BitVec.ofInt 64 v14 &&& BitVec.ofInt 64 4294967295)); let v19 : Int := IntKind.wrap IntKind.u64 v18; let v20 : Int := v9 * v1; let v21 : Int := IntKind.wrap IntKind.u64 v20; let v22 : Int := v19 + v21; let v23 : Int := IntKind.wrap IntKind.u64 v22; let v24 : Int := Int.fdiv v23 4294967296; let v25 : Int := v17 + v24; let v26 : Int := IntKind.wrap IntKind.u64 v25; let v27 : Int := x' * y'; let v28 : Int := IntKind.wrap IntKind.u64 v27; some (v26, (v28, ())))
def N52 : A52 → Option B52 := M52
def C52 : Ctr τ := ⟨i52, o52, N52⟩
theorem g52 : GOK κ Try.prog (G52) := gok_nil
theorem lall52 : ∀ Z : Zn, Z.rl = C52.o.keeps → Try.f52.ntmps ≤ Z.nt → ∀ p ∈ loops 0 (bodyOf Try.f52), ∀ C, (tabL []) p.1 = some C → LoopOK κ Try.prog Z p.2 C := fun Z h n => fun p hp => (by cases (show p ∈ ([] : List (Nat × Code)) from hp))
theorem e52 : ∀ x, M52 x = fnE Try.prog κ (G52) (tabL []) Try.f52 i52 o52 x := fun x => by kernel_rfl
theorem s52 : Sound κ Try.prog C52 52 := fn_sound (S := (tabL [])) (F := Try.f52) (code := bodyOf Try.f52) (by kernel_rfl) g52 Try.func52 (by kernel_rfl) (by kernel_rfl) (by kernel_rfl) lall52 (by kernel_rfl) (by kernel_rfl) fun x y h => (e52 x).symm.trans h
end Go.Proofs.Ytgdnleanagclaaa.E
namespace Go.Proofs.Ytgdnleanagclaaa.E
open Go
set_option linter.unusedVariables false
set_option maxRecDepth 100000
abbrev A53 : Type := (Bool × Int × Int × Unit)
abbrev B53 : Type := (Int × Unit)
def i53 : Fr τ A53 := (.val 0 .bool (.val 1 (.int .u64) (.val 2 (.int .u64) .nil)))
def o53 : Fr τ B53 := (.val 1000 (.int .u64) .nil)
def G53 : Nat → Option (Ctr τ) := tabG []
def M53 : A53 → Option B53 := fun ⟨first', ⟨a', ⟨b', ()⟩⟩⟩ => (bif first' then (some (a', ())) else (some (b', ())))
def N53 : A53 → Option B53 := M53
def C53 : Ctr τ := ⟨i53, o53, N53⟩
theorem g53 : GOK κ Try.prog (G53) := gok_nil
theorem lall53 : ∀ Z : Zn, Z.rl = C53.o.keeps → Try.f53.ntmps ≤ Z.nt → ∀ p ∈ loops 0 (bodyOf Try.f53), ∀ C, (tabL []) p.1 = some C → LoopOK κ Try.prog Z p.2 C := fun Z h n => fun p hp => (by cases (show p ∈ ([] : List (Nat × Code)) from hp))
theorem e53 : ∀ x, M53 x = fnE Try.prog κ (G53) (tabL []) Try.f53 i53 o53 x := fun x => by kernel_rfl
theorem s53 : Sound κ Try.prog C53 53 := fn_sound (S := (tabL [])) (F := Try.f53) (code := bodyOf Try.f53) (by kernel_rfl) g53 Try.func53 (by kernel_rfl) (by kernel_rfl) (by kernel_rfl) lall53 (by kernel_rfl) (by kernel_rfl) fun x y h => (e53 x).symm.trans h
end Go.Proofs.Ytgdnleanagclaaa.E
namespace Go.Proofs.Ytgdnleanagclaaa.E
open Go
set_option linter.unusedVariables false
set_option maxRecDepth 100000
abbrev A47 : Type := ((Int × Int) × (Int × Int) × Unit)
abbrev B47 : Type := ((Int × Int) × Int × Unit)
def i47 : Fr τ A47 := (.val 0 (.pair (.int .i64) (.int .u64)) (.val 1 (.pair (.int .i64) (.int .u64)) .nil))
def o47 : Fr τ B47 := (.val 1000 (.pair (.int .i64) (.int .u64)) (.val 1001 (.int .i64) .nil))
def G47 (c66 : (Int × Int × Int × Unit) → Option (Int × Int × Unit)) : Nat → Option (Ctr τ) := tabG [(66, ({ (cSub64 (τ := τ)) with f := c66 } : Ctr τ))]
def M47 (c66 : (Int × Int × Int × Unit) → Option (Int × Int × Unit)) : A47 → Option B47 := fun ⟨⟨a'_0, a'_1⟩, ⟨⟨b'_0, b'_1⟩, ()⟩⟩ => ((c66 (a'_1, (b'_1, (0, ())))).bind fun ⟨y0_0, ⟨y0_1, ()⟩⟩ => (let v0 : Int := IntKind.wrap IntKind.u64 a'_0; let v1 : Int := IntKind.wrap IntKind.u64 b'_0; (c66 (v0, (v1, (y0_1, ())))).bind fun ⟨y1_0, ⟨y1_1, ()⟩⟩ => (bif !decide (a'_0 < 0) == decide (b'_0 < 0) then (let v2 : Int := IntKind.wrap IntKind.i64 y1_0; bif !decide (v2 < 0) == decide (a'_0 < 0) then (some ((0, 0), (10, ()))) else (some ((v2, y0_0), (0, ())))) else (let v2 : Int := IntKind.wrap IntKind.i64 y1_0; some ((v2, y0_0), (0, ()))))))
def N47 : A47 → Option B47 := M47 (cSub64 (τ := τ)).f
def C47 : Ctr τ := ⟨i47, o47, N47⟩
theorem t47_66 : Sound κ Try.prog cSub64 66 := sub64_sound Try.func66 (by kernel_rfl) (by kernel_rfl) (by kernel_rfl) (by kernel_rfl)
theorem g47 : GOK κ Try.prog (G47 (cSub64 (τ := τ)).f) := (gok_cons t47_66 gok_nil)
theorem lall47 : ∀ Z : Zn, Z.rl = C47.o.keeps → Try.f47.ntmps ≤ Z.nt → ∀ p ∈ loops 0 (bodyOf Try.f47), ∀ C, (tabL []) p.1 = some C → LoopOK κ Try.prog Z p.2 C := fun Z h n => fun p hp => (by cases (show p ∈ ([] : List (Nat × Code)) from hp))
theorem e47 : ∀ (c66 : (Int × Int × Int × Unit) → Option (Int × Int × Unit)) x, M47 c66 x = fnE Try.prog κ (G47 c66) (tabL []) Try.f47 i47 o47 x := fun c66 x => by kernel_rfl
theorem s47 : Sound κ Try.prog C47 47 := fn_sound (S := (tabL [])) (F := Try.f47) (code := bodyOf Try.f47) (by kernel_rfl) g47 Try.func47 (by kernel_rfl) (by kernel_rfl) (by kernel_rfl) lall47 (by kernel_rfl) (by kernel_rfl) fun x y h => (e47 (cSub64 (τ := τ)).f x).symm.trans h
end Go.Proofs.Ytgdnleanagclaaa.E
namespace Go.Proofs.Ytgdnleanagclaaa.E
open Go
set_option linter.unusedVariables false
set_option maxRecDepth 100000
abbrev A49 : Type := ((Int × Int) × Unit)
abbrev B49 : Type := ((Int × Int) × Int × Unit)
def i49 : Fr τ A49 := (.val 0 (.pair (.int .i64) (.int .u64)) .nil)
def o49 : Fr τ B49 := (.val 1000 (.pair (.int .i64) (.int .u64)) (.val 1001 (.int .i64) .nil))
def G49 (c47 : A47 → Option B47) : Nat → Option (Ctr τ) := tabG [(47, (⟨i47, o47, c47⟩ : Ctr τ))]
def M49 (c47 : A47 → Option B47) : A49 → Option B49 := fun ⟨⟨a'_0, a'_1⟩, ()⟩ => ((c47 ((0, 0), ((a'_0, a'_1), ()))).bind fun ⟨⟨y0_0, y0_1⟩, ⟨y0_2, ()⟩⟩ => (some ((y0_0, y0_1), (y0_2, ()))))
def N49 : A49 → Option B49 := M49 N47
def C49 : Ctr τ := ⟨i49, o49, N49⟩
theorem g49 : GOK κ Try.prog (G49 N47) := (gok_cons s47 gok_nil)
theorem lall49 : ∀ Z : Zn, Z.rl = C49.o.keeps → Try.f49.ntmps ≤ Z.nt → ∀ p ∈ loops 0 (bodyOf Try.f49), ∀ C, (tabL []) p.1 = some C → LoopOK κ Try.prog Z p.2 C := fun Z h n => fun p hp => (by cases (show p ∈ ([] : List (Nat × Code)) from hp))
theorem e49 : ∀ (c47 : A47 → Option B47) x, M49 c47 x = fnE Try.prog κ (G49 c47) (tabL []) Try.f49 i49 o49 x := fun c47 x => by kernel_rfl
theorem s49 : Sound κ Try.prog C49 49 := fn_sound (S := (tabL [])) (F := Try.f49) (code := bodyOf Try.f49) (by kernel_rfl) g49 Try.func49 (by kernel_rfl) (by kernel_rfl) (by kernel_rfl) lall49 (by kernel_rfl) (by kernel_rfl) fun x y h => (e49 N47 x).symm.trans h
end Go.Proofs.Ytgdnleanagclaaa.E
namespace Go.Proofs.Ytgdnleanagclaaa.E
open Go
set_option linter.unusedVariables false
set_option maxRecDepth 100000
abbrev A55 : Type := (Bool × Int × Int × Unit)
abbrev B55 : Type := ((Int × Int) × Int × Unit)
def i55 : Fr τ A55 := (.val 0 .bool (.val 1 (.int .u64) (.val 2 (.int .u64) .nil)))
def o55 : Fr τ B55 := (.val 1000 (.pair (.int .i64) (.int .u64)) (.val 1001 (.int .i64) .nil))
def G55 (c49 : A49 → Option B49) : Nat → Option (Ctr τ) := tabG [(49, (⟨i49, o49, c49⟩ : Ctr τ))]
def M55 (c49 : A49 → Option B49) : A55 → Option B55 := fun ⟨below', ⟨hi', ⟨lo', ()⟩⟩⟩ => (let v0 : Int := Int.fdiv hi' 9223372036854775808; bif v0 == 0 then (bif below' then (let v1 : Int := IntKind.wrap IntKind.i64 hi'; (c49 ((v1, lo'), ())).bind fun ⟨⟨y2_0, y2_1⟩, ⟨y2_2, ()⟩⟩ => (some ((y2_0, y2_1), (y2_2, ())))) else (let v1 : Int := IntKind.wrap IntKind.i64 hi'; some ((v1, lo'), (0, ())))) else (bif below' then (bif hi' == 9223372036854775808 then (bif lo' == 0 then (some ((-9223372036854775808, 0), (0, ()))) else (some ((0, 0), (10, ())))) else (some ((0, 0), (10, ())))) else (some ((0, 0), (10, ())))))
def N55 : A55 → Option B55 := M55 N49
def C55 : Ctr τ := ⟨i55, o55, N55⟩
theorem g55 : GOK κ Try.prog (G55 N49) := (gok_cons s49 gok_nil)
theorem lall55 : ∀ Z : Zn, Z.rl = C55.o.keeps → Try.f55.ntmps ≤ Z.nt → ∀ p ∈ loops 0 (bodyOf Try.f55), ∀ C, (tabL []) p.1 = some C → LoopOK κ Try.prog Z p.2 C := fun Z h n => fun p hp => (by cases (show p ∈ ([] : List (Nat × Code)) from hp))
theorem e55 : ∀ (c49 : A49 → Option B49) x, M55 c49 x = fnE Try.prog κ (G55 c49) (tabL []) Try.f55 i55 o55 x := fun c49 x => by kernel_rfl
theorem s55 : Sound κ Try.prog C55 55 := fn_sound (S := (tabL [])) (F := Try.f55) (code := bodyOf Try.f55) (by kernel_rfl) g55 Try.func55 (by kernel_rfl) (by kernel_rfl) (by kernel_rfl) lall55 (by kernel_rfl) (by kernel_rfl) fun x y h => (e55 N49 x).symm.trans h
end Go.Proofs.Ytgdnleanagclaaa.E
namespace Go.Proofs.Ytgdnleanagclaaa.E
open Go
set_option linter.unusedVariables false
set_option maxRecDepth 100000
abbrev A27 : Type := ((Int × Int) × (Int × Int) × Unit)
abbrev B27 : Type := ((Int × Int) × Int × Unit)
def i27 : Fr τ A27 := (.val 0 (.pair (.int .i64) (.int .u64)) (.val 1 (.pair (.int .i64) (.int .u64)) .nil))
def o27 : Fr τ B27 := (.val 1000 (.pair (.int .i64) (.int .u64)) (.val 1001 (.int .i64) .nil))
def G27 (c51 : A51 → Option B51) (c52 : A52 → Option B52) (c53 : A53 → Option B53) (c54 : (Int × Int × Int × Unit) → Option (Int × Int × Unit)) (c55 : A55 → Option B55) : Nat → Option (Ctr τ) := tabG [(51, (⟨i51, o51, c51⟩ : Ctr τ)), (52, (⟨i52, o52, c52⟩ : Ctr τ)), (53, (⟨i53, o53, c53⟩ : Ctr τ)), (54, ({ (cAdd64 (τ := τ)) with f := c54 } : Ctr τ)), (55, (⟨i55, o55, c55⟩ : Ctr τ))]
def M27 (c51 : A51 → Option B51) (c52 : A52 → Option B52) (c53 : A53 → Option B53) (c54 : (Int × Int × Int × Unit) → Option (Int × Int × Unit)) (c55 : A55 → Option B55) : A27 → Option B27 := fun ⟨⟨a'_0, a'_1⟩, ⟨⟨b'_0, b'_1⟩, ()⟩⟩ => ((c51 ((a'_0, a'_1), ())).bind fun ⟨y0_0, ⟨y0_1, ()⟩⟩ => ((c51 ((b'_0, b'_1), ())).bind fun ⟨y1_0, ⟨y1_1, ()⟩⟩ => (bif y0_0 != 0 then (bif y1_0 != 0 then (some ((0, 0), (10, ()))) else ((c52 (y0_1, (y1_1, ()))).bind fun ⟨y4_0, ⟨y4_1, ()⟩⟩ => ((c53 (y0_0 != 0, (y1_1, (y0_1, ())))).bind fun ⟨y5, ()⟩ => (let v0 : Int := ↑(BitVec.toNat (BitVec.ofInt 64 y0_0 ||| BitVec.ofInt 64 y1_0)); let v1 : Int := IntKind.wrap IntKind.u64 v0; (c52 (v1, (y5, ()))).bind fun ⟨y6_0, ⟨y6_1, ()⟩⟩ => ((c54 (y4_0, (y6_1, (0, ())))).bind fun ⟨y7_0, ⟨y7_1, ()⟩⟩ => (bif y6_0 != 0 then (some ((0, 0), (10, ()))) else (bif y7_1 != 0 then (some ((0, 0), (10, ()))) else ((c55 (!decide (a'_0 < 0) == decide (b'_0 < 0), (y7_0, (y4_1, ())))).bind fun ⟨⟨y10_0, y10_1⟩, ⟨y10_2, ()⟩⟩ => (some ((y10_0, y10_1), (y10_2, ()))))))))))) else ((c52 (y0_1, (y1_1, ()))).bind fun ⟨y3_0, ⟨y3_1, ()⟩⟩ => ((c53 (y0_0 != 0, (y1_1, (y0_1, ())))).bind fun ⟨y4, ()⟩ => (let v0 : Int := ↑(BitVec.toNat (BitVec.ofInt 64 y0_0 ||| BitVec.ofInt 64 y1_0)); let v1 : Int := IntKind.wrap IntKind.u64 v0; (c52 (v1, (y4, ()))).bind fun ⟨y5_0, ⟨y5_1, ()⟩⟩ => ((c54 (y3_0, (y5_1, (0, ())))).bind fun ⟨y6_0, ⟨y6_1, ()⟩⟩ => (bif y5_0 != 0 then (some ((0, 0), (10, ()))) else (bif y6_1 != 0 then (some ((0, 0), (10, ()))) else ((c55 (!decide (a'_0 < 0) == decide (b'_0 < 0), (y6_0, (y3_1, ())))).bind fun ⟨⟨y9_0, y9_1⟩, ⟨y9_2, ()⟩⟩ => (some ((y9_0, y9_1), (y9_2, ())))))))))))))
def N27 : A27 → Option B27 := M27 N51 N52 N53 (cAdd64 (τ := τ)).f N55
def C27 : Ctr τ := ⟨i27, o27, N27⟩
theorem t27_54 : Sound κ Try.prog cAdd64 54 := add64_sound Try.func54 (by kernel_rfl) (by kernel_rfl) (by kernel_rfl) (by kernel_rfl)
theorem g27 : GOK κ Try.prog (G27 N51 N52 N53 (cAdd64 (τ := τ)).f N55) := (gok_cons s51 (gok_cons s52 (gok_cons s53 (gok_cons t27_54 (gok_cons s55 gok_nil)))))
theorem lall27 : ∀ Z : Zn, Z.rl = C27.o.keeps → Try.f27.ntmps ≤ Z.nt → ∀ p ∈ loops 0 (bodyOf Try.f27), ∀ C, (tabL []) p.1 = some C → LoopOK κ Try.prog Z p.2 C := fun Z h n => fun p hp => (by cases (show p ∈ ([] : List (Nat × Code)) from hp))
theorem e27 : ∀ (c51 : A51 → Option B51) (c52 : A52 → Option B52) (c53 : A53 → Option B53) (c54 : (Int × Int × Int × Unit) → Option (Int × Int × Unit)) (c55 : A55 → Option B55) x, M27 c51 c52 c53 c54 c55 x = fnE Try.prog κ (G27 c51 c52 c53 c54 c55) (tabL []) Try.f27 i27 o27 x := fun c51 c52 c53 c54 c55 x => by kernel_rfl
theorem s27 : Sound κ Try.prog C27 27 := fn_sound (S := (tabL [])) (F := Try.f27) (code := bodyOf Try.f27) (by kernel_rfl) g27 Try.func27 (by kernel_rfl) (by kernel_rfl) (by kernel_rfl) lall27 (by kernel_rfl) (by kernel_rfl) fun x y h => (e27 N51 N52 N53 (cAdd64 (τ := τ)).f N55 x).symm.trans h
end Go.Proofs.Ytgdnleanagclaaa.E
namespace Go.Proofs.Ytgdnleanagclaaa.E
open Go
set_option linter.unusedVariables false
set_option maxRecDepth 100000
abbrev A28 : Type := (Int × Int × Unit)
abbrev B28 : Type := (Int × Unit)
def i28 : Fr τ A28 := (.val 0 (.int .i64) (.val 1 (.int .i64) .nil))
def o28 : Fr τ B28 := (.val 1000 (.int .i64) .nil)
def G28 : Nat → Option (Ctr τ) := tabG []
def M28 : A28 → Option B28 := fun ⟨q', ⟨size', ()⟩⟩ => ((bif !size' == 0 then some () else none).bind fun () => ((bif !size' == 0 then some () else none).bind fun () => (let v0 : Int := Int.tdiv q' size'; let v1 : Int := IntKind.wrap IntKind.i64 v0; let v2 : Int := Int.tmod q' size'; let v3 : Int := v1 + if 1 < v2 then 1 else v2; let v4 : Int := IntKind.wrap IntKind.i64 v3; some (v4, ()))))
def N28 : A28 → Option B28 := M28
def C28 : Ctr τ := ⟨i28, o28, N28⟩
theorem g28 : GOK κ Try.prog (G28) := gok_nil
theorem lall28 : ∀ Z : Zn, Z.rl = C28.o.keeps → Try.f28.ntmps ≤ Z.nt → ∀ p ∈ loops 0 (bodyOf Try.f28), ∀ C, (tabL []) p.1 = some C → LoopOK κ Try.prog Z p.2 C := fun Z h n => fun p hp => (by cases (show p ∈ ([] : List (Nat × Code)) from hp))
theorem e28 : ∀ x, M28 x = fnE Try.prog κ (G28) (tabL []) Try.f28 i28 o28 x := fun x => by kernel_rfl
theorem s28 : Sound κ Try.prog C28 28 := fn_sound (S := (tabL [])) (F := Try.f28) (code := bodyOf Try.f28) (by kernel_rfl) g28 Try.func28 (by kernel_rfl) (by kernel_rfl) (by kernel_rfl) lall28 (by kernel_rfl) (by kernel_rfl) fun x y h => (e28 x).symm.trans h
end Go.Proofs.Ytgdnleanagclaaa.E
namespace Go.Proofs.Ytgdnleanagclaaa.E
open Go
set_option linter.unusedVariables false
set_option maxRecDepth 100000
abbrev A29 : Type := ((Int × Int) × (Int × Int) × Unit)
abbrev B29 : Type := ((Int × Int) × Int × Unit)
def i29 : Fr τ A29 := (.val 0 (.pair (.int .i64) (.int .u64)) (.val 1 (.pair (.int .i64) (.int .u64)) .nil))
def o29 : Fr τ B29 := (.val 1000 (.pair (.int .i64) (.int .u64)) (.val 1001 (.int .i64) .nil))
def G29 (c54 : (Int × Int × Int × Unit) → Option (Int × Int × Unit)) : Nat → Option (Ctr τ) := tabG [(54, ({ (cAdd64 (τ := τ)) with f := c54 } : Ctr τ))]
def M29 (c54 : (Int × Int × Int × Unit) → Option (Int × Int × Unit)) : A29 → Option B29 := fun ⟨⟨a'_0, a'_1⟩, ⟨⟨b'_0, b'_1⟩, ()⟩⟩ => ((c54 (a'_1, (b'_1, (0, ())))).bind fun ⟨y0_0, ⟨y0_1, ()⟩⟩ => (let v0 : Int := IntKind.wrap IntKind.u64 a'_0; let v1 : Int := IntKind.wrap IntKind.u64 b'_0; (c54 (v0, (v1, (y0_1, ())))).bind fun ⟨y1_0, ⟨y1_1, ()⟩⟩ => (bif decide (a'_0 < 0) == decide (b'_0 < 0) then (let v2 : Int := IntKind.wrap IntKind.i64 y1_0; bif !decide (v2 < 0) == decide (a'_0 < 0) then (some ((0, 0), (10, ()))) else (some ((v2, y0_0), (0, ())))) else (let v2 : Int := IntKind.wrap IntKind.i64 y1_0; some ((v2, y0_0), (0, ()))))))
def N29 : A29 → Option B29 := M29 (cAdd64 (τ := τ)).f
def C29 : Ctr τ := ⟨i29, o29, N29⟩
theorem t29_54 : Sound κ Try.prog cAdd64 54 := add64_sound Try.func54 (by kernel_rfl) (by kernel_rfl) (by kernel_rfl) (by kernel_rfl)
theorem g29 : GOK κ Try.prog (G29 (cAdd64 (τ := τ)).f) := (gok_cons t29_54 gok_nil)
theorem lall29 : ∀ Z : Zn, Z.rl = C29.o.keeps → Try.f29.ntmps ≤ Z.nt → ∀ p ∈ loops 0 (bodyOf Try.f29), ∀ C, (tabL []) p.1 = some C → LoopOK κ Try.prog Z p.2 C := fun Z h n => fun p hp => (by cases (show p ∈ ([] : List (Nat × Code)) from hp))
theorem e29 : ∀ (c54 : (Int × Int × Int × Unit) → Option (Int × Int × Unit)) x, M29 c54 x = fnE Try.prog κ (G29 c54) (tabL []) Try.f29 i29 o29 x := fun c54 x => by kernel_rfl
theorem s29 : Sound κ Try.prog C29 29 := fn_sound (S := (tabL [])) (F := Try.f29) (code := bodyOf Try.f29) (by kernel_rfl) g29 Try.func29 (by kernel_rfl) (by kernel_rfl) (by kernel_rfl) lall29 (by kernel_rfl) (by kernel_rfl) fun x y h => (e29 (cAdd64 (τ := τ)).f x).symm.trans h
end Go.Proofs.Ytgdnleanagclaaa.E
namespace Go.Proofs.Ytgdnleanagclaaa.E
open Go
set_option linter.unusedVariables false
set_option maxRecDepth 100000
abbrev A10 : Type := (((Int × Int) × ((Int × Int) × (Int × Int))) × Int × Int × Unit)
abbrev B10 : Type := ((Int × Int) × Int × Unit)
def i10 : Fr τ A10 := (.val 0 (.pair (.pair (.int .i64) (.int .u64)) (.pair (.pair (.int .i64) (.int .u64)) (.pair (.int .i64) (.int .u64)))) (.val 1 (.int .i64) (.val 2 (.int .i64) .nil)))
def o10 : Fr τ B10 := (.val 1000 (.pair (.int .i64) (.int .u64)) (.val 1001 (.int .i64) .nil))
def G10 (c23 : A23 → Option B23) (c22 : A22 → Option B22) (c27 : A27 → Option B27) (c28 : A28 → Option B28) (c29 : A29 → Option B29) : Nat → Option (Ctr τ) := tabG [(23, (⟨i23, o23, c23⟩ : Ctr τ)), (22, (⟨i22, o22, c22⟩ : Ctr τ)), (27, (⟨i27, o27, c27⟩ : Ctr τ)), (28, (⟨i28, o28, c28⟩ : Ctr τ)), (29, (⟨i29, o29, c29⟩ : Ctr τ))]
def M10 (c23 : A23 → Option B23) (c22 : A22 → Option B22) (c27 : A27 → Option B27) (c28 : A28 → Option B28) (c29 : A29 → Option B29) : A10 → Option B10 := fun ⟨⟨⟨l'_0, l'_1⟩, ⟨⟨l'_2, l'_3⟩, ⟨l'_4, l'_5⟩⟩⟩, ⟨size', ⟨q', ()⟩⟩⟩ => ((c23 (size', (q', ()))).bind fun ⟨y0, ()⟩ => (bif !y0 then (some ((0, 0), (1, ()))) else ((c22 (q', ())).bind fun ⟨⟨y2_0, y2_1⟩, ()⟩ => ((c27 ((l'_2, l'_3), ((y2_0, y2_1), ()))).bind fun ⟨⟨y3_0, y3_1⟩, ⟨y3_2, ()⟩⟩ => (bif y3_2 != 0 then (some ((0, 0), (y3_2, ()))) else ((c28 (q', (size', ()))).bind fun ⟨y5, ()⟩ => ((c22 (y5, ())).bind fun ⟨⟨y6_0, y6_1⟩, ()⟩ => ((c27 ((l'_4, l'_5), ((y6_0, y6_1), ()))).bind fun ⟨⟨y7_0, y7_1⟩, ⟨y7_2, ()⟩⟩ => (bif y7_2 != 0 then (some ((0, 0), (y7_2, ()))) else ((c29 ((l'_0, l'_1), ((y3_0, y3_1), ()))).bind fun ⟨⟨y9_0, y9_1⟩, ⟨y9_2, ()⟩⟩ => (bif y9_2 != 0 then (some ((0, 0), (y9_2, ()))) else ((c29 ((y9_0, y9_1), ((y7_0, y7_1), ()))).bind fun ⟨⟨y11_0, y11_1⟩, ⟨y11_2, ()⟩⟩ => (some ((y11_0, y11_1), (y11_2, ())))))))))))))))
def N10 : A10 → Option B10 := M10 N23 N22 N27 N28 N29
def C10 : Ctr τ := ⟨i10, o10, N10⟩
theorem g10 : GOK κ Try.prog (G10 N23 N22 N27 N28 N29) := (gok_cons s23 (gok_cons s22 (gok_cons s27 (gok_cons s28 (gok_cons s29 gok_nil)))))
theorem lall10 : ∀ Z : Zn, Z.rl = C10.o.keeps → Try.f10.ntmps ≤ Z.nt → ∀ p ∈ loops 0 (bodyOf Try.f10), ∀ C, (tabL []) p.1 = some C → LoopOK κ Try.prog Z p.2 C := fun Z h n => fun p hp => (by cases (show p ∈ ([] : List (Nat × Code)) from hp))
theorem e10 : ∀ (c23 : A23 → Option B23) (c22 : A22 → Option B22) (c27 : A27 → Option B27) (c28 : A28 → Option B28) (c29 : A29 → Option B29) x, M10 c23 c22 c27 c28 c29 x = fnE Try.prog κ (G10 c23 c22 c27 c28 c29) (tabL []) Try.f10 i10 o10 x := fun c23 c22 c27 c28 c29 x => by kernel_rfl
theorem s10 : Sound κ Try.prog C10 10 := fn_sound (S := (tabL [])) (F := Try.f10) (code := bodyOf Try.f10) (by kernel_rfl) g10 Try.func10 (by kernel_rfl) (by kernel_rfl) (by kernel_rfl) lall10 (by kernel_rfl) (by kernel_rfl) fun x y h => (e10 N23 N22 N27 N28 N29 x).symm.trans h
end Go.Proofs.Ytgdnleanagclaaa.E
namespace Go.Proofs.Ytgdnleanagclaaa.E
open Go
set_option linter.unusedVariables false
set_option maxRecDepth 100000
abbrev A24 : Type := ((Int × Int) × Unit)
abbrev B24 : Type := ((Int × Int) × Int × Unit)
def i24 : Fr τ A24 := (.val 0 (.pair (.int .i64) (.int .u64)) .nil)
def o24 : Fr τ B24 := (.val 1000 (.pair (.int .i64) (.int .u64)) (.val 1001 (.int .i64) .nil))
def G24 (c49 : A49 → Option B49) : Nat → Option (Ctr τ) := tabG [(49, (⟨i49, o49, c49⟩ : Ctr τ))]
def M24 (c49 : A49 → Option B49) : A24 → Option B24 := fun ⟨⟨w'_0, w'_1⟩, ()⟩ => (bif decide (w'_0 < 0) then ((c49 ((w'_0, w'_1), ())).bind fun ⟨⟨y1_0, y1_1⟩, ⟨y1_2, ()⟩⟩ => (some ((y1_0, y1_1), (y1_2, ())))) else (some ((w'_0, w'_1), (0, ()))))
def N24 : A24 → Option B24 := M24 N49
def C24 : Ctr τ := ⟨i24, o24, N24⟩
theorem g24 : GOK κ Try.prog (G24 N49) := (gok_cons s49 gok_nil)
theorem lall24 : ∀ Z : Zn, Z.rl = C24.o.keeps → Try.f24.ntmps ≤ Z.nt → ∀ p ∈ loops 0 (bodyOf Try.f24), ∀ C, (tabL []) p.1 = some C → LoopOK κ Try.prog Z p.2 C := fun Z h n => fun p hp => (by cases (show p ∈ ([] : List (Nat × Code)) from hp))
theorem e24 : ∀ (c49 : A49 → Option B49) x, M24 c49 x = fnE Try.prog κ (G24 c49) (tabL []) Try.f24 i24 o24 x := fun c49 x => by kernel_rfl
theorem s24 : Sound κ Try.prog C24 24 := fn_sound (S := (tabL [])) (F := Try.f24) (code := bodyOf Try.f24) (by kernel_rfl) g24 Try.func24 (by kernel_rfl) (by kernel_rfl) (by kernel_rfl) lall24 (by kernel_rfl) (by kernel_rfl) fun x y h => (e24 N49 x).symm.trans h
end Go.Proofs.Ytgdnleanagclaaa.E
namespace Go.Proofs.Ytgdnleanagclaaa.E
open Go
set_option linter.unusedVariables false
set_option maxRecDepth 100000
abbrev A8 : Type := (((Int × Int) × ((Int × Int) × (Int × Int))) × Int × Unit)
abbrev B8 : Type := ((Int × Int) × Int × Unit)
def i8 : Fr τ A8 := (.val 0 (.pair (.pair (.int .i64) (.int .u64)) (.pair (.pair (.int .i64) (.int .u64)) (.pair (.int .i64) (.int .u64)))) (.val 1 (.int .i64) .nil))
def o8 : Fr τ B8 := (.val 1000 (.pair (.int .i64) (.int .u64)) (.val 1001 (.int .i64) .nil))
def G8 (c23 : A23 → Option B23) (c24 : A24 → Option B24) (c10 : A10 → Option B10) : Nat → Option (Ctr τ) := tabG [(23, (⟨i23, o23, c23⟩ : Ctr τ)), (24, (⟨i24, o24, c24⟩ : Ctr τ)), (10, (⟨i10, o10, c10⟩ : Ctr τ))]
def M8 (c23 : A23 → Option B23) (c24 : A24 → Option B24) (c10 : A10 → Option B10) : A8 → Option B8 := fun ⟨⟨⟨l'_0, l'_1⟩, ⟨⟨l'_2, l'_3⟩, ⟨l'_4, l'_5⟩⟩⟩, ⟨size', ()⟩⟩ => ((c23 (size', (0, ()))).bind fun ⟨y0, ()⟩ => (bif !y0 then (some ((0, 0), (1, ()))) else ((c24 ((l'_0, l'_1), ())).bind fun ⟨⟨y2_0, y2_1⟩, ⟨y2_2, ()⟩⟩ => ((c24 ((l'_2, l'_3), ())).bind fun ⟨⟨y3_0, y3_1⟩, ⟨y3_2, ()⟩⟩ => ((c24 ((l'_4, l'_5), ())).bind fun ⟨⟨y4_0, y4_1⟩, ⟨y4_2, ()⟩⟩ => (bif y2_2 != 0 then (some ((0, 0), (10, ()))) else (bif y3_2 != 0 then (some ((0, 0), (10, ()))) else (bif y4_2 != 0 then (some ((0, 0), (10, ()))) else ((c10 (((y2_0, y2_1), ((y3_0, y3_1), (y4_0, y4_1))), (size', (1099511627776, ())))).bind fun ⟨⟨y8_0, y8_1⟩, ⟨y8_2, ()⟩⟩ => (some ((y8_0, y8_1), (y8_2, ()))))))))))))
def N8 : A8 → Option B8 := M8 N23 N24 N10
def C8 : Ctr τ := ⟨i8, o8, N8⟩
theorem g8 : GOK κ Try.prog (G8 N23 N24 N10) := (gok_cons s23 (gok_cons s24 (gok_cons s10 gok_nil)))
theorem lall8 : ∀ Z : Zn, Z.rl = C8.o.keeps → Try.f8.ntmps ≤ Z.nt → ∀ p ∈ loops 0 (bodyOf Try.f8), ∀ C, (tabL []) p.1 = some C → LoopOK κ Try.prog Z p.2 C := fun Z h n => fun p hp => (by cases (show p ∈ ([] : List (Nat × Code)) from hp))
theorem e8 : ∀ (c23 : A23 → Option B23) (c24 : A24 → Option B24) (c10 : A10 → Option B10) x, M8 c23 c24 c10 x = fnE Try.prog κ (G8 c23 c24 c10) (tabL []) Try.f8 i8 o8 x := fun c23 c24 c10 x => by kernel_rfl
theorem s8 : Sound κ Try.prog C8 8 := fn_sound (S := (tabL [])) (F := Try.f8) (code := bodyOf Try.f8) (by kernel_rfl) g8 Try.func8 (by kernel_rfl) (by kernel_rfl) (by kernel_rfl) lall8 (by kernel_rfl) (by kernel_rfl) fun x y h => (e8 N23 N24 N10 x).symm.trans h
end Go.Proofs.Ytgdnleanagclaaa.E
namespace Go.Proofs.Ytgdnleanagclaaa.E
open Go
set_option linter.unusedVariables false
set_option maxRecDepth 100000
abbrev A34 : Type := ((Int × Int) × (Int × Int) × Unit)
abbrev B34 : Type := (Int × Unit)
def i34 : Fr τ A34 := (.val 0 (.pair (.int .i64) (.int .u64)) (.val 1 (.pair (.int .i64) (.int .u64)) .nil))
def o34 : Fr τ B34 := (.val 1000 (.int .i64) .nil)
def G34 : Nat → Option (Ctr τ) := tabG []
def M34 : A34 → Option B34 := fun ⟨⟨a'_0, a'_1⟩, ⟨⟨b'_0, b'_1⟩, ()⟩⟩ => (bif a'_0 == b'_0 && a'_1 == b'_1 then (some (0, ())) else (bif decide (a'_0 < b'_0) then (bif decide (a'_0 < b'_0) then (some (-1, ())) else (some (1, ()))) else (bif a'_0 == b'_0 then (bif decide (a'_1 < b'_1) then (some (-1, ())) else (some (1, ()))) else (some (1, ())))))
def N34 : A34 → Option B34 := M34
def C34 : Ctr τ := ⟨i34, o34, N34⟩
theorem g34 : GOK κ Try.prog (G34) := gok_nil
theorem lall34 : ∀ Z : Zn, Z.rl = C34.o.keeps → Try.f34.ntmps ≤ Z.nt → ∀ p ∈ loops 0 (bodyOf Try.f34), ∀ C, (tabL []) p.1 = some C → LoopOK κ Try.prog Z p.2 C := fun Z h n => fun p hp => (by cases (show p ∈ ([] : List (Nat × Code)) from hp))
theorem e34 : ∀ x, M34 x = fnE Try.prog κ (G34) (tabL []) Try.f34 i34 o34 x := fun x => by kernel_rfl
theorem s34 : Sound κ Try.prog C34 34 := fn_sound (S := (tabL [])) (F := Try.f34) (code := bodyOf Try.f34) (by kernel_rfl) g34 Try.func34 (by kernel_rfl) (by kernel_rfl) (by kernel_rfl) lall34 (by kernel_rfl) (by kernel_rfl) fun x y h => (e34 x).symm.trans h
end Go.Proofs.Ytgdnleanagclaaa.E
namespace Go.Proofs.Ytgdnleanagclaaa.E
open Go
set_option linter.unusedVariables false
set_option maxRecDepth 100000
abbrev A36 : Type := ((((Int × Int) × ((Int × Int) × (Int × Int))) × (Int × Bool)) × Int × Unit)
abbrev B36 : Type := ((Int × Int) × Unit)
def i36 : Fr τ A36 := (.val 0 (.pair (.pair (.pair (.int .i64) (.int .u64)) (.pair (.pair (.int .i64) (.int .u64)) (.pair (.int .i64) (.int .u64)))) (.pair (.int .i64) .bool)) (.val 1 (.int .i64) .nil))
def o36 : Fr τ B36 := (.val 1000 (.pair (.int .i64) (.int .u64)) .nil)
def G36 (c10 : A10 → Option B10) : Nat → Option (Ctr τ) := tabG [(10, (⟨i10, o10, c10⟩ : Ctr τ))]
def M36 (c10 : A10 → Option B10) : A36 → Option B36 := fun ⟨⟨⟨⟨w'_0, w'_1⟩, ⟨⟨w'_2, w'_3⟩, ⟨w'_4, w'_5⟩⟩⟩, ⟨w'_6, w'_7⟩⟩, ⟨q', ()⟩⟩ => ((c10 (((w'_0, w'_1), ((w'_2, w'_3), (w'_4, w'_5))), (w'_6, (q', ())))).bind fun ⟨⟨y0_0, y0_1⟩, ⟨y0_2, ()⟩⟩ => (some ((y0_0, y0_1), ())))
def N36 : A36 → Option B36 := M36 N10
def C36 : Ctr τ := ⟨i36, o36, N36⟩
theorem g36 : GOK κ Try.prog (G36 N10) := (gok_cons s10 gok_nil)
theorem lall36 : ∀ Z : Zn, Z.rl = C36.o.keeps → Try.f36.ntmps ≤ Z.nt → ∀ p ∈ loops 0 (bodyOf Try.f36), ∀ C, (tabL []) p.1 = some C → LoopOK κ Try.prog Z p.2 C := fun Z h n => fun p hp => (by cases (show p ∈ ([] : List (Nat × Code)) from hp))
theorem e36 : ∀ (c10 : A10 → Option B10) x, M36 c10 x = fnE Try.prog κ (G36 c10) (tabL []) Try.f36 i36 o36 x := fun c10 x => by kernel_rfl
theorem s36 : Sound κ Try.prog C36 36 := fn_sound (S := (tabL [])) (F := Try.f36) (code := bodyOf Try.f36) (by kernel_rfl) g36 Try.func36 (by kernel_rfl) (by kernel_rfl) (by kernel_rfl) lall36 (by kernel_rfl) (by kernel_rfl) fun x y h => (e36 N10 x).symm.trans h
end Go.Proofs.Ytgdnleanagclaaa.E
namespace Go.Proofs.Ytgdnleanagclaaa.E
open Go
set_option linter.unusedVariables false
set_option maxRecDepth 100000
abbrev A35 : Type := ((Int × Int) × Unit)
abbrev B35 : Type := (Int × Unit)
def i35 : Fr τ A35 := (.val 0 (.pair (.int .i64) (.int .u64)) .nil)
def o35 : Fr τ B35 := (.val 1000 (.int .i64) .nil)
def G35 : Nat → Option (Ctr τ) := tabG []
def M35 : A35 → Option B35 := fun ⟨⟨w'_0, w'_1⟩, ()⟩ => (bif decide (w'_0 < 0) then (some (-1, ())) else (bif w'_0 == 0 && w'_1 == 0 then (some (0, ())) else (some (1, ()))))
def N35 : A35 → Option B35 := M35
def C35 : Ctr τ := ⟨i35, o35, N35⟩
theorem g35 : GOK κ Try.prog (G35) := gok_nil
theorem lall35 : ∀ Z : Zn, Z.rl = C35.o.keeps → Try.f35.ntmps ≤ Z.nt → ∀ p ∈ loops 0 (bodyOf Try.f35), ∀ C, (tabL []) p.1 = some C → LoopOK κ Try.prog Z p.2 C := fun Z h n => fun p hp => (by cases (show p ∈ ([] : List (Nat × Code)) from hp))
theorem e35 : ∀ x, M35 x = fnE Try.prog κ (G35) (tabL []) Try.f35 i35 o35 x := fun x => by kernel_rfl
theorem s35 : Sound κ Try.prog C35 35 := fn_sound (S := (tabL [])) (F := Try.f35) (code := bodyOf Try.f35) (by kernel_rfl) g35 Try.func35 (by kernel_rfl) (by kernel_rfl) (by kernel_rfl) lall35 (by kernel_rfl) (by kernel_rfl) fun x y h => (e35 x).symm.trans h
end Go.Proofs.Ytgdnleanagclaaa.E
namespace Go.Proofs.Ytgdnleanagclaaa.E
open Go
set_option linter.unusedVariables false
set_option maxRecDepth 100000
abbrev A75 : Type := (Int × Unit)
abbrev B75 : Type := (Int × Unit)
def i75 : Fr τ A75 := (.val 0 (.int .u64) .nil)
def o75 : Fr τ B75 := (.val 1000 (.int .i64) .nil)
def G75 : Nat → Option (Ctr τ) := tabG []
def M75 : A75 → Option B75 := fun ⟨x', ()⟩ => (bif decide (x' ≥ 4294967296) then (let v0 : Int := Int.fdiv x' 4294967296; bif decide (v0 ≥ 65536) then (let v1 : Int := Int.fdiv v0 65536; bif decide (v1 ≥ 256) then (let v2 : Int := Int.fdiv v1 256; let v3 : Int := IntKind.wrap IntKind.u8 v2; (bif decide (0 ≤ v3) then (List.toArray (List.append (List.append [0, 1, 2, 2, 3, 3, 3, 3, 4, 4, 4, 4, 4, 4, 4, 4, 5, 5, 5, 5, 5, 5, 5, 5, 5, 5, 5, 5, 5, 5, 5, 5, 6, 6, 6, 6, 6, 6, 6, 6, 6, 6, 6, 6, 6, 6, 6, 6, 6, 6, 6, 6, 6, 6, 6, 6, 6, 6, 6, 6, 6, 6, 6, 6] [7, 7, 7, 7, 7, 7, 7, 7, 7, 7, 7, 7, 7, 7, 7, 7, 7, 7, 7, 7, 7, 7, 7, 7, 7, 7, 7, 7, 7, 7, 7, 7, 7, 7, 7, 7, 7, 7, 7, 7, 7, 7, 7, 7, 7, 7, 7, 7, 7, 7, 7, 7, 7, 7, 7, 7, 7, 7, 7, 7, 7, 7, 7, 7]) (List.append [8, 8, 8, 8, 8, 8, 8, 8, 8, 8, 8, 8, 8, 8, 8, 8, 8, 8, 8, 8, 8, 8, 8, 8, 8, 8, 8, 8, 8, 8, 8, 8, 8, 8, 8, 8, 8, 8, 8, 8, 8, 8, 8, 8, 8, 8, 8, 8, 8, 8, 8, 8, 8, 8, 8, 8, 8, 8, 8, 8, 8, 8, 8, 8] [8, 8, 8, 8, 8, 8, 8, 8, 8, 8, 8, 8, 8, 8, 8, 8, 8, 8, 8, 8, 8, 8, 8, 8, 8, 8, 8, 8, 8, 8, 8, 8, 8, 8, 8, 8, 8, 8, 8, 8, 8, 8, 8, 8, 8, 8, 8, 8, 8, 8, 8, 8, 8, 8, 8, 8, 8, 8, 8, 8, 8, 8, 8, 8])))[Int.toNat v3]? else none).bind fun y3 => (let v4 : Int := ↑(UInt8.toNat y3); let v5 : Int := IntKind.wrap IntKind.i64 v4; let v6 : Int := 56 + v5; let v7 : Int := IntKind.wrap IntKind.i64 v6; some (v7, ()))) else (let v2 : Int := IntKind.wrap IntKind.u8 v1; (bif decide (0 ≤ v2) then (List.toArray (List.append (List.append [0, 1, 2, 2, 3, 3, 3, 3, 4, 4, 4, 4, 4, 4, 4, 4, 5, 5, 5, 5, 5, 5, 5, 5, 5, 5, 5, 5, 5, 5, 5, 5, 6, 6, 6, 6, 6, 6, 6, 6, 6, 6, 6, 6, 6, 6, 6, 6, 6, 6, 6, 6, 6, 6, 6, 6, 6, 6, 6, 6, 6, 6, 6, 6] [7, 7, 7, 7, 7, 7, 7, 7, 7, 7, 7, 7, 7, 7, 7, 7, 7, 7, 7, 7, 7, 7, 7, 7, 7, 7, 7, 7, 7, 7, 7, 7, 7, 7, 7, 7, 7, 7, 7, 7, 7, 7, 7, 7, 7, 7, 7, 7, 7, 7, 7, 7, 7, 7, 7, 7, 7, 7, 7, 7, 7, 7, 7, 7]) (List.append [8, 8, 8, 8, 8, 8, 8, 8, 8, 8, 8, 8, 8, 8, 8, 8, 8, 8, 8, 8, 8, 8, 8, 8, 8, 8, 8, 8, 8, 8, 8, 8, 8, 8, 8, 8, 8, 8, 8, 8, 8, 8, 8, 8, 8, 8, 8, 8, 8, 8, 8, 8, 8, 8, 8, 8, 8, 8, 8, 8, 8, 8, 8, 8] [8, 8, 8, 8, 8, 8, 8, 8, 8, 8, 8, 8, 8, 8, 8, 8, 8, 8, 8, 8, 8, 8, 8, 8, 8, 8, 8, 8, 8, 8, 8, 8, 8, 8, 8, 8, 8, 8, 8, 8, 8, 8, 8, 8, 8, 8, 8, 8, 8, 8, 8, 8, 8, 8, 8, 8, 8, 8, 8, 8, 8, 8, 8, 8])))[Int.toNat v2]? else none).bind fun y3 => (let v3 : Int := ↑(UInt8.toNat y3); let v4 : Int := IntKind.wrap IntKind.i64 v3; let v5 : Int := 48 + v4; let v6 : Int := IntKind.wrap IntKind.i64 v5; some (v6, ())))) else (bif decide (v0 ≥ 256) then (let v1 : Int := Int.fdiv v0 256; let v2 : Int := IntKind.wrap IntKind.u8 v1; (bif decide (0 ≤ v2) then (List.toArray (List.append (List.append [0, 1, 2, 2, 3, 3, 3, 3, 4, 4, 4, 4, 4, 4, 4, 4, 5, 5, 5, 5, 5, 5, 5, 5, 5, 5, 5, 5, 5, 5, 5, 5, 6, 6, 6, 6, 6, 6, 6, 6, 6, 6, 6, 6, 6, 6, 6, 6, 6, 6, 6, 6, 6, 6, 6, 6, 6, 6, 6, 6, 6, 6, 6, 6] [7, 7, 7, 7, 7, 7, 7, 7, 7, 7, 7, 7, 7, 7, 7, 7, 7, 7, 7, 7, 7, 7, 7, 7, 7, 7, 7, 7, 7, 7, 7, 7, 7, 7, 7, 7, 7, 7, 7, 7, 7, 7, 7, 7, 7, 7, 7, 7, 7, 7, 7, 7, 7, 7, 7, 7, 7, 7, 7, 7, 7, 7, 7, 7]) (List.append [8, 8, 8, 8, 8, 8, 8, 8, 8, 8, 8, 8, 8, 8, 8, 8, 8, 8, 8, 8, 8, 8, 8, 8, 8, 8, 8, 8, 8, 8, 8, 8, 8, 8, 8, 8, 8, 8, 8, 8, 8, 8, 8, 8, 8, 8, 8, 8, 8, 8, 8, 8, 8, 8, 8, 8, 8, 8, 8, 8, 8, 8, 8, 8] [8, 8, 8, 8, 8, 8, 8, 8, 8, 8, 8, 8, 8, 8, 8, 8, 8, 8, 8, 8, 8, 8, 8, 8, 8, 8, 8, 8, 8, 8, 8, 8, 8, 8, 8, 8, 8, 8, 8, 8, 8, 8, 8, 8, 8, 8, 8, 8, 8, 8, 8, 8, 8, 8, 8, 8, 8, 8, 8, 8, 8, 8, 8, 8])))[Int.toNat v2]? else none).bind fun y3 => (let v3 : Int := ↑(UInt8.toNat y3); let v4 : Int := IntKind.wrap IntKind.i64 v3; let v5 : Int := 40 + v4; let v6 : Int := IntKind.wrap IntKind.i64 v5; some (v6, ()))) else (let v1 : Int := IntKind.wrap IntKind.u8 v0; (bif decide (0 ≤ v1) then (List.toArray (List.append (List.append [0, 1, 2, 2, 3, 3, 3, 3, 4, 4, 4, 4, 4, 4, 4, 4, 5, 5, 5, 5, 5, 5, 5, 5, 5, 5, 5, 5, 5, 5, 5, 5, 6, 6, 6, 6, 6, 6, 6, 6, 6, 6, 6, 6, 6, 6, 6, 6, 6, 6, 6, 6, 6, 6, 6, 6, 6, 6, 6, 6, 6, 6, 6, 6] [7, 7, 7, 7, 7, 7, 7, 7, 7, 7, 7, 7, 7, 7, 7, 7, 7, 7, 7, 7, 7, 7, 7, 7, 7, 7, 7, 7, 7, 7, 7, 7, 7, 7, 7, 7, 7, 7, 7, 7, 7, 7, 7, 7, 7, 7, 7, 7, 7, 7, 7, 7, 7, 7, 7, 7, 7, 7, 7, 7, 7, 7, 7, 7]) (List.append [8, 8, 8, 8, 8, 8, 8, 8, 8, 8, 8, 8, 8, 8, 8, 8, 8, 8, 8, 8, 8, 8, 8, 8, 8, 8, 8, 8, 8, 8, 8, 8, 8, 8, 8, 8, 8, 8, 8, 8, 8, 8, 8, 8, 8, 8, 8, 8, 8, 8, 8, 8, 8, 8, 8, 8, 8, 8, 8, 8, 8, 8, 8, 8] [8, 8, 8, 8, 8, 8, 8, 8, 8, 8, 8, 8, 8, 8, 8, 8, 8, 8, 8, 8, 8, 8, 8, 8, 8, 8, 8, 8, 8, 8, 8, 8, 8, 8, 8, 8, 8, 8, 8, 8, 8, 8, 8, 8, 8, 8, 8, 8, 8, 8, 8, 8, 8, 8, 8, 8, 8, 8, 8, 8, 8, 8, 8, 8])))[Int.toNat v1]? else none).bind fun y3 => (let v2 : Int := ↑(UInt8.toNat y3); let v3 : Int := IntKind.wrap IntKind.i64 v2; let v4 : Int := 32 + v3; let v5 : Int := IntKind.wrap IntKind.i64 v4; some (v5, ()))))) else (bif decide (x' ≥ 65536) then (let v0 : Int := Int.fdiv x' 65536; bif decide (v0 ≥ 256) then (let v1 : Int := Int.fdiv v0 256; let v2 : Int := IntKind.wrap IntKind.u8 v1; (bif decide (0 ≤ v2) then (List.toArray (List.append (List.append [0, 1, 2, 2, 3, 3, 3, 3, 4, 4, 4, 4, 4, 4, 4, 4, 5, 5, 5, 5, 5, 5, 5, 5, 5, 5, 5, 5, 5, 5, 5, 5, 6, 6, 6, 6, 6, 6, 6, 6, 6, 6, 6, 6, 6, 6, 6, 6, 6, 6, 6, 6, 6, 6, 6, 6, 6, 6, 6, 6, 6, 6, 6, 6] [7, 7, 7, 7, 7, 7, 7, 7, 7, 7, 7, 7, 7, 7, 7, 7, 7, 7, 7, 7, 7, 7, 7, 7, 7, 7, 7, 7, 7, 7, 7, 7, 7, 7, 7, 7, 7, 7, 7, 7, 7, 7, 7, 7, 7, 7, 7, 7, 7, 7, 7, 7, 7, 7, 7, 7, 7, 7, 7, 7, 7, 7, 7, 7]) (List.append [8, 8, 8, 8, 8, 8, 8, 8, 8, 8, 8, 8, 8, 8, 8, 8, 8, 8, 8, 8, 8, 8, 8, 8, 8, 8, 8, 8, 8, 8, 8, 8, 8, 8, 8, 8, 8, 8, 8, 8, 8, 8, 8, 8, 8, 8, 8, 8, 8, 8, 8, 8, 8, 8, 8, 8, 8, 8, 8, 8, 8, 8, 8, 8] [8, 8, 8, 8, 8, 8, 8, 8, 8, 8, 8, 8, 8, 8, 8, 8, 8, 8, 8, 8, 8, 8, 8, 8, 8, 8, 8, 8, 8, 8, 8, 8, 8, 8, 8, 8, 8, 8, 8, 8, 8, 8, 8, 8, 8, 8, 8, 8, 8, 8, 8, 8, 8, 8, 8, 8, 8, 8, 8, 8, 8, 8, 8, 8])))[Int.toNat v2]? else none).bind fun y3 => (let v3 : Int := ↑(UInt8.toNat y3); let v4 : Int := IntKind.wrap IntKind.i64 v3; let v5 : Int := 24 + v4; let v6 : Int := IntKind.wrap IntKind.i64 v5; some (v6, ()))) else (let v1 : Int := IntKind.wrap IntKind.u8 v0; (bif decide (0 ≤ v1) then (List.toArray (List.append (List.append [0, 1, 2, 2, 3, 3, 3, 3, 4, 4, 4, 4, 4, 4, 4, 4, 5, 5, 5, 5, 5, 5, 5, 5, 5, 5, 5, 5, 5, 5, 5, 5, 6, 6, 6, 6, 6, 6, 6, 6, 6, 6, 6, 6, 6, 6, 6, 6, 6, 6, 6, 6, 6, 6, 6, 6, 6, 6, 6, 6, 6, 6, 6, 6] [7, 7, 7, 7, 7, 7, 7, 7, 7, 7, 7, 7, 7, 7, 7, 7, 7, 7, 7, 7, 7, 7, 7, 7, 7, 7, 7, 7, 7, 7, 7, 7, 7, 7, 7, 7, 7, 7, 7, 7, 7, 7, 7, 7, 7, 7, 7, 7, 7, 7, 7, 7, 7, 7, 7, 7, 7, 7, 7, 7, 7, 7, 7, 7]) (List.append [8, 8, 8, 8, 8, 8, 8, 8, 8, 8, 8, 8, 8, 8, 8, 8, 8, 8, 8, 8, 8, 8, 8, 8, 8, 8, 8, 8, 8, 8, 8, 8, 8, 8, 8, 8, 8, 8, 8, 8, 8, 8, 8, 8, 8, 8, 8, 8, 8, 8, 8, 8, 8, 8, 8, 8, 8, 8, 8, 8, 8, 8, 8, 8] [8, 8, 8, 8, 8, 8, 8, 8, 8, 8, 8, 8, 8, 8, 8, 8, 8, 8, 8, 8, 8, 8, 8, 8, 8, 8, 8, 8, 8, 8, 8, 8, 8, 8, 8, 8, 8, 8, 8, 8, 8, 8, 8, 8, 8, 8, 8, 8, 8, 8, 8, 8, 8, 8, 8, 8, 8, 8, 8, 8, 8, 8, 8, 8])))[Int.toNat v1]? else none).bind fun y3 => (let v2 : Int := ↑(UInt8.toNat y3); let v3 : Int := IntKind.wrap IntKind.i64 v2; let v4 : Int := 16 + v3; let v5 : Int := IntKind.wrap IntKind.i64 v4; some (v5, ())))) else (bif decide (x' ≥ 256) then (let v0 : Int := Int.fdiv x' 256; let v1 : Int := IntKind.wrap IntKind.u8 v0; (bif decide (0 ≤ v1) then (List.toArray (List.append (List.append [0, 1, 2, 2, 3, 3, 3, 3, 4, 4, 4, 4, 4, 4, 4, 4, 5, 5, 5, 5, 5, 5, 5, 5, 5, 5, 5, 5, 5, 5, 5, 5, 6, 6, 6, 6, 6, 6, 6, 6, 6, 6, 6, 6, 6, 6, 6, 6, 6, 6, 6, 6, 6, 6, 6, 6, 6, 6, 6, 6, 6, 6, 6, 6] [7, 7, 7, 7, 7, 7, 7, 7, 7, 7, 7, 7, 7, 7, 7, 7, 7, 7, 7, 7, 7, 7, 7, 7, 7, 7, 7, 7, 7, 7, 7, 7, 7, 7, 7, 7, 7, 7, 7, 7, 7, 7, 7, 7, 7, 7, 7, 7, 7, 7, 7, 7, 7, 7, 7, 7, 7, 7, 7, 7, 7, 7, 7, 7]) (List.append [8, 8, 8, 8, 8, 8, 8, 8, 8, 8, 8, 8, 8, 8, 8, 8, 8, 8, 8, 8, 8, 8, 8, 8, 8, 8, 8, 8, 8, 8, 8, 8, 8, 8, 8, 8, 8, 8, 8, 8, 8, 8, 8, 8, 8, 8, 8, 8, 8, 8, 8, 8, 8, 8, 8, 8, 8, 8, 8, 8, 8, 8, 8, 8] [8, 8, 8, 8, 8, 8, 8, 8, 8, 8, 8, 8, 8, 8, 8, 8, 8, 8, 8, 8, 8, 8, 8, 8, 8, 8, 8, 8, 8, 8, 8, 8, 8, 8, 8, 8, 8, 8, 8, 8, 8, 8, 8, 8, 8, 8, 8, 8, 8, 8, 8, 8, 8, 8, 8, 8, 8, 8, 8, 8, 8, 8, 8, 8])))[Int.toNat v1]? else none).bind fun y3 => (let v2 : Int := ↑(UInt8.toNat y3); let v3 : Int := IntKind.wrap IntKind.i64 v2; let v4 : Int := 8 + v3; let v5 : Int := IntKind.wrap IntKind.i64 v4; some (v5, ()))) else (let v0 : Int := IntKind.wrap IntKind.u8 x'; (bif decide (0 ≤ v0) then (List.toArray (List.append (List.append [0, 1, 2, 2, 3, 3, 3, 3, 4, 4, 4, 4, 4, 4, 4, 4, 5, 5, 5, 5, 5, 5, 5, 5, 5, 5, 5, 5, 5, 5, 5, 5, 6, 6, 6, 6, 6, 6, 6, 6, 6, 6, 6, 6, 6, 6, 6, 6, 6, 6, 6, 6, 6, 6, 6, 6, 6, 6, 6, 6, 6, 6, 6, 6] [7, 7, 7, 7, 7, 7, 7, 7, 7, 7, 7, 7, 7, 7, 7, 7, 7, 7, 7, 7, 7, 7, 7, 7, 7, 7, 7, 7, 7, 7, 7, 7, 7, 7, 7, 7, 7, 7, 7, 7, 7, 7, 7, 7, 7, 7, 7, 7, 7, 7, 7, 7, 7, 7, 7, 7, 7, 7, 7, 7, 7, 7, 7, 7]) (List.append [8, 8, 8, 8, 8, 8, 8, 8, 8, 8, 8, 8, 8, 8, 8, 8, 8, 8, 8, 8, 8, 8, 8, 8, 8, 8, 8, 8, 8, 8, 8, 8, 8, 8, 8, 8, 8, 8, 8, 8, 8, 8, 8, 8, 8, 8, 8, 8, 8, 8, 8, 8, 8, 8, 8, 8, 8, 8, 8, 8, 8, 8, 8, 8] [8, 8, 8, 8, 8, 8, 8, 8, 8, 8, 8, 8, 8, 8, 8, 8, 8, 8, 8, 8, 8, 8, 8, 8, 8, 8, 8, 8, 8, 8, 8, 8, 8, 8, 8, 8, 8, 8, 8, 8, 8, 8, 8, 8, 8, 8, 8, 8, 8, 8, 8, 8, 8, 8, 8, 8, 8, 8, 8, 8, 8, 8, 8, 8])))[Int.toNat v0]? else none).bind fun y3 => (let v1 : Int := ↑(UInt8.toNat y3); let v2 : Int := IntKind.wrap IntKind.i64 v1; let v3 : Int := 0 + v2; let v4 : Int := IntKind.wrap IntKind.i64 v3; some (v4, ()))))))
def N75 : A75 → Option B75 := M75
def C75 : Ctr τ := ⟨i75, o75, N75⟩
theorem g75 : GOK κ Try.prog (G75) := gok_nil
theorem lall75 : ∀ Z : Zn, Z.rl = C75.o.keeps → Try.f75.ntmps ≤ Z.nt → ∀ p ∈ loops 0 (bodyOf Try.f75), ∀ C, (tabL []) p.1 = some C → LoopOK κ Try.prog Z p.2 C := fun Z h n => fun p hp => (by cases (show p ∈ ([] : List (Nat × Code)) from hp))
theorem e75 : ∀ x, M75 x = fnE Try.prog κ (G75) (tabL []) Try.f75 i75 o75 x := fun x => by kernel_rfl
theorem s75 : Sound κ Try.prog C75 75 := fn_sound (S := (tabL [])) (F := Try.f75) (code := bodyOf Try.f75) (by kernel_rfl) g75 Try.func75 (by kernel_rfl) (by kernel_rfl) (by kernel_rfl) lall75 (by kernel_rfl) (by kernel_rfl) fun x y h => (e75 x).symm.trans h
end Go.Proofs.Ytgdnleanagclaaa.E
namespace Go.Proofs.Ytgdnleanagclaaa.E
open Go
set_option linter.unusedVariables false
set_option maxRecDepth 100000
abbrev A74 : Type := (Int × Unit)
abbrev B74 : Type := (Int × Unit)
def i74 : Fr τ A74 := (.val 0 (.int .u64) .nil)
def o74 : Fr τ B74 := (.val 1000 (.int .i64) .nil)
def G74 (c75 : A75 → Option B75) : Nat → Option (Ctr τ) := tabG [(75, (⟨i75, o75, c75⟩ : Ctr τ))]
def M74 (c75 : A75 → Option B75) : A74 → Option B74 := fun ⟨x', ()⟩ => ((c75 (x', ())).bind fun ⟨y0, ()⟩ => (let v0 : Int := 64 - y0; let v1 : Int := IntKind.wrap IntKind.i64 v0; some (v1, ())))
def N74 : A74 → Option B74 := M74 N75
def C74 : Ctr τ := ⟨i74, o74, N74⟩
theorem g74 : GOK κ Try.prog (G74 N75) := (gok_cons s75 gok_nil)
theorem lall74 : ∀ Z : Zn, Z.rl = C74.o.keeps → Try.f74.ntmps ≤ Z.nt → ∀ p ∈ loops 0 (bodyOf Try.f74), ∀ C, (tabL []) p.1 = some C → LoopOK κ Try.prog Z p.2 C := fun Z h n => fun p hp => (by cases (show p ∈ ([] : List (Nat × Code)) from hp))
theorem e74 : ∀ (c75 : A75 → Option B75) x, M74 c75 x = fnE Try.prog κ (G74 c75) (tabL []) Try.f74 i74 o74 x := fun c75 x => by kernel_rfl
theorem s74 : Sound κ Try.prog C74 74 := fn_sound (S := (tabL [])) (F := Try.f74) (code := bodyOf Try.f74) (by kernel_rfl) g74 Try.func74 (by kernel_rfl) (by kernel_rfl) (by kernel_rfl) lall74 (by kernel_rfl) (by kernel_rfl) fun x y h => (e74 N75 x).symm.trans h
end Go.Proofs.Ytgdnleanagclaaa.E
namespace Go.Proofs.Ytgdnleanagclaaa.E
open Go
set_option linter.unusedVariables false
set_option maxRecDepth 100000
abbrev A73 : Type := (Int × Int × Int × Unit)
abbrev B73 : Type := (Int × Int × Unit)
def i73 : Fr τ A73 := (.val 0 (.int .u64) (.val 1 (.int .u64) (.val 2 (.int .u64) .nil)))
def o73 : Fr τ B73 := (.val 1000 (.int .u64) (.val 1001 (.int .u64) .nil))
def G73 (c74 : A74 → Option B74) : Nat → Option (Ctr τ) := tabG [(74, (⟨i74, o74, c74⟩ : Ctr τ))]
abbrev LA73_2 : Type := (Int × Int × Int × Int × Int × Int × Int × Int × Int × Unit)
abbrev LB73_2 : Type := (Int × Int × Int × Int × Int × Int × Unit)
def li73_2 : Fr τ LA73_2 := (.val 2 (.int .u64) (.val 8 (.int .u64) (.val 9 (.int .u64) (.val 10 (.int .u64) (.val 14 (.int .u64) (.val 15 (.int .u64) (.val 16 (.int .u64) (.val 17 (.int .u64) (.val 18 (.int .u64) .nil)))))))))
def lo73_2 : Ot τ LB73_2 := .one (.exit 2) (.val 2 (.int .u64) (.val 8 (.int .u64) (.val 14 (.int .u64) (.val 15 (.int .u64) (.val 17 (.int .u64) (.val 18 (.int .u64) .nil))))))
def Q73_2 (c74 : A74 → Option B74) : LA73_2 → Option (LA73_2 ⊕ LB73_2) := fun ⟨y', ⟨s', ⟨yn1', ⟨yn0', ⟨un0', ⟨q1', ⟨rhat', ⟨un21', ⟨q0', ()⟩⟩⟩⟩⟩⟩⟩⟩⟩ => (bif decide (q0' ≥ 4294967296) then (let v0 : Int := rhat' + yn1'; let v1 : Int := IntKind.wrap IntKind.u64 v0; bif decide (v1 ≥ 4294967296) then (let v2 : Int := q0' - 1; let v3 : Int := IntKind.wrap IntKind.u64 v2; some (.inr (y', (s', (un0', (q1', (un21', (v3, ())))))))) else (let v2 : Int := q0' - 1; let v3 : Int := IntKind.wrap IntKind.u64 v2; some (.inl (y', (s', (yn1', (yn0', (un0', (q1', (v1, (un21', (v3, ())))))))))))) else (let v0 : Int := q0' * yn0'; let v1 : Int := IntKind.wrap IntKind.u64 v0; let v2 : Int := 4294967296 * rhat'; let v3 : Int := IntKind.wrap IntKind.u64 v2; let v4 : Int := v3 + un0'; let v5 : Int := IntKind.wrap IntKind.u64 v4; bif decide (v1 > v5) then (let v6 : Int := rhat' + yn1'; let v7 : Int := IntKind.wrap IntKind.u64 v6; bif decide (v7 ≥ 4294967296) then (let v8 : Int := q0' - 1; let v9 : Int := IntKind.wrap IntKind.u64 v8; some (.inr (y', (s', (un0', (q1', (un21', (v9, ())))))))) else (let v8 : Int := q0' - 1; let v9 : Int := IntKind.wrap IntKind.u64 v8; some (.inl (y', (s', (yn1', (yn0', (un0', (q1', (v7, (un21', (v9, ())))))))))))) else (some (.inr (y', (s', (un0', (q1', (un21', (q0', ()))))))))))
def R73_2 : LA73_2 → Option (LA73_2 ⊕ LB73_2) := Q73_2 N74
def L73_2 : Lc τ := ⟨li73_2, itrs R73_2, lo73_2⟩
abbrev LA73_0 : Type := (Int × Int × Int × Int × Int × Int × Int × Int × Int × Unit)
abbrev LB73_0 : Type := (Int × Int × Int × Int × Int × Int × Int × Int × Unit)
def li73_0 : Fr τ LA73_0 := (.val 2 (.int .u64) (.val 8 (.int .u64) (.val 9 (.int .u64) (.val 10 (.int .u64) (.val 11 (.int .u64) (.val 13 (.int .u64) (.val 14 (.int .u64) (.val 15 (.int .u64) (.val 16 (.int .u64) .nil)))))))))
def lo73_0 : Ot τ LB73_0 := .one (.exit 0) (.val 2 (.int .u64) (.val 8 (.int .u64) (.val 9 (.int .u64) (.val 10 (.int .u64) (.val 11 (.int .u64) (.val 13 (.int .u64) (.val 14 (.int .u64) (.val 15 (.int .u64) .nil))))))))
def Q73_0 (c74 : A74 → Option B74) : LA73_0 → Option (LA73_0 ⊕ LB73_0) := fun ⟨y', ⟨s', ⟨yn1', ⟨yn0', ⟨un32', ⟨un1', ⟨un0', ⟨q1', ⟨rhat', ()⟩⟩⟩⟩⟩⟩⟩⟩⟩ => (bif decide (q1' ≥ 4294967296) then (let v0 : Int := rhat' + yn1'; let v1 : Int := IntKind.wrap IntKind.u64 v0; bif decide (v1 ≥ 4294967296) then (let v2 : Int := q1' - 1; let v3 : Int := IntKind.wrap IntKind.u64 v2; some (.inr (y', (s', (yn1', (yn0', (un32', (un1', (un0', (v3, ())))))))))) else (let v2 : Int := q1' - 1; let v3 : Int := IntKind.wrap IntKind.u64 v2; some (.inl (y', (s', (yn1', (yn0', (un32', (un1', (un0', (v3, (v1, ())))))))))))) else (let v0 : Int := q1' * yn0'; let v1 : Int := IntKind.wrap IntKind.u64 v0; let v2 : Int := 4294967296 * rhat'; let v3 : Int := IntKind.wrap IntKind.u64 v2; let v4 : Int := v3 + un1'; let v5 : Int := IntKind.wrap IntKind.u64 v4; bif decide (v1 > v5) then (let v6 : Int := rhat' + yn1'; let v7 : Int := IntKind.wrap IntKind.u64 v6; bif decide (v7 ≥ 4294967296) then (let v8 : Int := q1' - 1; let v9 : Int := IntKind.wrap IntKind.u64 v8; some (.inr (y', (s', (yn1', (yn0', (un32', (un1', (un0', (v9, ())))))))))) else (let v8 : Int := q1' - 1; let v9 : Int := IntKind.wrap IntKind.u64 v8; some (.inl (y', (s', (yn1', (yn0', (un32', (un1', (un0', (v9, (v7, ())))))))))))) else (some (.inr (y', (s', (yn1', (yn0', (un32', (un1', (un0', (q1', ()))))))))))))
def R73_0 : LA73_0 → Option (LA73_0 ⊕ LB73_0) := Q73_0 N74
def L73_0 : Lc τ := ⟨li73_0, itrs R73_0, lo73_0⟩
def M73 (c74 : A74 → Option B74) (l73_0 : LA73_0 → Option LB73_0) (l73_2 : LA73_2 → Option LB73_2) : A73 → Option B73 := fun ⟨hi', ⟨lo', ⟨y', ()⟩⟩⟩ => (bif y' == 0 then none else (bif decide (y' ≤ hi') then none else (bif hi' == 0 then ((bif !y' == 0 then some () else none).bind fun () => ((bif !y' == 0 then some () else none).bind fun () => (let v0 : Int := Int.tdiv lo' y'; let v1 : Int := IntKind.wrap IntKind.u64 v0; let v2 : Int := Int.tmod lo' y'; some (v1, (v2, ()))))) else ((c74 (y', ())).bind fun ⟨y3, ()⟩ => (let v0 : Int := IntKind.wrap IntKind.u64 y3; (bif decide (0 ≤ v0) then some () else none).bind fun () => ((bif decide (0 ≤ v0) then some () else none).bind fun () => (let v1 : Int := 64 - v0; let v2 : Int := IntKind.wrap IntKind.u64 v1; (bif decide (0 ≤ v2) then some () else none).bind fun () => ((bif decide (0 ≤ v0) then some () else none).bind fun () => (let v3 : Int := y' * 2 ^ min (Int.toNat v0) 64; let v4 : Int := IntKind.wrap IntKind.u64 v3; let v5 : Int := Int.fdiv v4 4294967296; (bif !v5 == 0 then some () else none).bind fun () => (let v6 : Int := ↑(BitVec.toNat (BitVec.ofInt 64 v4 &&& BitVec.ofInt 64 4294967295)); let v7 : Int := IntKind.wrap IntKind.u64 v6; let v8 : Int := hi' * 2 ^ min (Int.toNat v0) 64; let v9 : Int := IntKind.wrap IntKind.u64 v8; let v10 : Int := Int.fdiv lo' (2 ^ min (Int.toNat v2) 64); let v11 : Int := ↑(BitVec.toNat (BitVec.ofInt 64 v9 ||| BitVec.ofInt 64 v10)); let v12 : Int := IntKind.wrap IntKind.u64 v11; let v13 : Int := lo' * 2 ^ min (Int.toNat v0) 64; let v14 : Int := IntKind.wrap IntKind.u64 v13; let v15 : Int := Int.fdiv v14 4294967296; let v16 : Int := ↑(BitVec.toNat (BitVec.ofInt 64 v14 &&& BitVec.ofInt 64 4294967295)); let v17 : Int := IntKind.wrap IntKind.u64 v16; let v18 : Int := Int.tdiv v12 v5; let v19 : Int := IntKind.wrap IntKind.u64 v18; let v20 : Int := v19 * v5; let v21 : Int := IntKind.wrap IntKind.u64 v20; let v22 : Int := v12 - v21; let v23 : Int := IntKind.wrap IntKind.u64 v22; (l73_0 (v4, (v0, (v5, (v7, (v12, (v15, (v17, (v19, (v23, ())))))))))).bind fun ⟨y9_0, ⟨y9_1, ⟨y9_2, ⟨y9_3, ⟨y9_4, ⟨y9_5, ⟨y9_6, ⟨y9_7, ()⟩⟩⟩⟩⟩⟩⟩⟩ => ((bif !y9_2 == 0 then some () else none).bind fun () => (let v24 : Int := y9_4 * 4294967296; let v25 : Int := IntKind.wrap IntKind.u64 v24; let v26 : Int := v25 + y9_5; let v27 : Int := IntKind.wrap IntKind.u64 v26; let v28 : Int := y9_7 * y9_0; let v29 : Int := IntKind.wrap IntKind.u64 v28; let v30 : Int := v27 - v29; let v31 : Int := IntKind.wrap IntKind.u64 v30; let v32 : Int := Int.tdiv v31 y9_2; let v33 : Int := IntKind.wrap IntKind.u64 v32; let v34 : Int := v33 * y9_2; let v35 : Int := IntKind.wrap IntKind.u64 v34; let v36 : Int := v31 - v35; let v37 : Int := IntKind.wrap IntKind.u64 v36; (l73_2 (y9_0, (y9_1, (y9_2, (y9_3, (y9_6, (y9_7, (v37, (v31, (v33, ())))))))))).bind fun ⟨y11_0, ⟨y11_1, ⟨y11_2, ⟨y11_3, ⟨y11_4, ⟨y11_5, ()⟩⟩⟩⟩⟩⟩ => ((bif decide (0 ≤ y11_1) then some () else none).bind fun () => (let v38 : Int := y11_3 * 4294967296; let v39 : Int := IntKind.wrap IntKind.u64 v38; let v40 : Int := v39 + y11_5; let v41 : Int := IntKind.wrap IntKind.u64 v40; let v42 : Int := y11_4 * 4294967296; let v43 : Int := IntKind.wrap IntKind.u64 v42; let v44 : Int := v43 + y11_2; let v45 : Int := IntKind.wrap IntKind.u64 v44; let v46 : Int := y11_5 * y11_0; let v47 : Int := IntKind.wrap IntKind.u64 v46; let v48 : Int := v45 - v47; let v49 : Int := IntKind.wrap IntKind.u64 v48; let v50 : Int := Int.fdiv v49 (2 ^ min (Int.toNat y11_1) 64); some (v41, (v50, ()))))))))))))))))
def N73 : A73 → Option B73 := M73 N74 (itrs R73_0) (itrs R73_2)
def C73 : Ctr τ := ⟨i73, o73, N73⟩
theorem g73 : GOK κ Try.prog (G73 N74) := (gok_cons s74 gok_nil)
theorem le73_2 : ∀ (c74 : A74 → Option B74) x, Q73_2 c74 x = run Try.prog κ (G73 c74) (tabL []) 2 (loopAt Try.f73 1) (li73_2.build x) (rnd li73_2 lo73_2) := fun c74 x => by kernel_rfl
theorem le73_0 : ∀ (c74 : A74 → Option B74) x, Q73_0 c74 x = run Try.prog κ (G73 c74) (tabL []) 0 (loopAt Try.f73 0) (li73_0.build x) (rnd li73_0 lo73_0) := fun c74 x => by kernel_rfl
theorem linner73_2 : ∀ Z : Zn, Z.rl = [] → 135 ≤ Z.nt → ∀ p ∈ loops 2 (loopAt Try.f73 1), ∀ C, (tabL []) p.1 = some C → LoopOK κ Try.prog Z p.2 C := fun Z h n => fun p hp => (by cases (show p ∈ ([] : List (Nat × Code)) from hp))
theorem lk73_2 : ∀ Z : Zn, Z.rl = [] → 135 ≤ Z.nt → LoopOK κ Try.prog Z (loopAt Try.f73 1) L73_2 := fun Z h n => loop_ok (S := (tabL [])) R73_2 (by kernel_rfl) g73 (by rw [h]; exact dsts_mono n _ (by kernel_rfl)) (linner73_2 Z h n) (by kernel_rfl) (by kernel_rfl) (le73_2 N74) itrs_rounds
theorem linner73_0 : ∀ Z : Zn, Z.rl = [] → 135 ≤ Z.nt → ∀ p ∈ loops 0 (loopAt Try.f73 0), ∀ C, (tabL []) p.1 = some C → LoopOK κ Try.prog Z p.2 C := fun Z h n => fun p hp => (by cases (show p ∈ ([] : List (Nat × Code)) from hp))
theorem lk73_0 : ∀ Z : Zn, Z.rl = [] → 135 ≤ Z.nt → LoopOK κ Try.prog Z (loopAt Try.f73 0) L73_0 := fun Z h n => loop_ok (S := (tabL [])) R73_0 (by kernel_rfl) g73 (by rw [h]; exact dsts_mono n _ (by kernel_rfl)) (linner73_0 Z h n) (by kernel_rfl) (by kernel_rfl) (le73_0 N74) itrs_rounds
theorem lall73 : ∀ Z : Zn, Z.rl = C73.o.keeps → Try.f73.ntmps ≤ Z.nt → ∀ p ∈ loops 0 (bodyOf Try.f73), ∀ C, (tabL [(0, L73_0), (2, L73_2)]) p.1 = some C → LoopOK κ Try.prog Z p.2 C := fun Z h n => all_loops [(0, loopAt Try.f73 0), (2, loopAt Try.f73 1)] (by kernel_rfl) (all_cons (fun C hC => (Option.some.inj hC : L73_0 = C) ▸ lk73_0 Z h n) (all_cons (fun C hC => (Option.some.inj hC : L73_2 = C) ▸ lk73_2 Z h n) (fun _ h => by cases h)))
theorem e73 : ∀ (c74 : A74 → Option B74) (l73_0 : LA73_0 → Option LB73_0) (l73_2 : LA73_2 → Option LB73_2) x, M73 c74 l73_0 l73_2 x = fnE Try.prog κ (G73 c74) (tabL [(0, (⟨li73_0, l73_0, lo73_0⟩ : Lc τ)), (2, (⟨li73_2, l73_2, lo73_2⟩ : Lc τ))]) Try.f73 i73 o73 x := fun c74 l73_0 l73_2 x => by kernel_rfl
theorem s73 : Sound κ Try.prog C73 73 := fn_sound (S := (tabL [(0, L73_0), (2, L73_2)])) (F := Try.f73) (code := bodyOf Try.f73) (by kernel_rfl) g73 Try.func73 (by kernel_rfl) (by kernel_rfl) (by kernel_rfl) lall73 (by kernel_rfl) (by kernel_rfl) fun x y h => (e73 N74 (itrs R73_0) (itrs R73_2) x).symm.trans h
end Go.Proofs.Ytgdnleanagclaaa.E
namespace Go.Proofs.Ytgdnleanagclaaa.E
open Go
set_option linter.unusedVariables false
set_option maxRecDepth 100000
abbrev A72 : Type := (Int × Int × Int × Int × Unit)
abbrev B72 : Type := (Int × Int × Int × Int × Unit)
def i72 : Fr τ A72 := (.val 0 (.int .u64) (.val 1 (.int .u64) (.val 2 (.int .u64) (.val 3 (.int .u64) .nil))))
def o72 : Fr τ B72 := (.val 1000 (.int .u64) (.val 1001 (.int .u64) (.val 1002 (.int .u64) (.val 1003 (.int .u64) .nil))))
def G72 (c73 : A73 → Option B73) (c66 : (Int × Int × Int × Unit) → Option (Int × Int × Unit)) : Nat → Option (Ctr τ) := tabG [(73, (⟨i73, o73, c73⟩ : Ctr τ)), (66, ({ (cSub64 (τ := τ)) with f := c66 } : Ctr τ))]
abbrev LA72_0 : Type := (Int × Int × Int × Int × Int × Int × Int × Unit)
abbrev LB72_0 : Type := (Int × Int × Int × Unit)
def li72_0 : Fr τ LA72_0 := (.val 1 (.int .u64) (.val 2 (.int .u64) (.val 3 (.int .u64) (.val 9 (.int .u64) (.val 10 (.int .u64) (.val 11 (.int .u64) (.val 12 (.int .i64) .nil)))))))
def lo72_0 : Ot τ LB72_0 := .one (.exit 0) (.val 9 (.int .u64) (.val 10 (.int .u64) (.val 11 (.int .u64) .nil)))
def Q72_0 (c73 : A73 → Option B73) (c66 : (Int × Int × Int × Unit) → Option (Int × Int × Unit)) : LA72_0 → Option (LA72_0 ⊕ LB72_0) := fun ⟨al', ⟨bh', ⟨bl', ⟨ql', ⟨rh', ⟨rl', ⟨i', ()⟩⟩⟩⟩⟩⟩⟩ => (bif decide (i' ≥ 0) then ((bif decide (0 ≤ i') then some () else none).bind fun () => (let v0 : Int := rh' * 2; let v1 : Int := IntKind.wrap IntKind.u64 v0; let v2 : Int := Int.fdiv rl' 9223372036854775808; let v3 : Int := ↑(BitVec.toNat (BitVec.ofInt 64 v1 ||| BitVec.ofInt 64 v2)); let v4 : Int := IntKind.wrap IntKind.u64 v3; bif decide (v4 > bh') then (let v5 : Int := rl' * 2; let v6 : Int := IntKind.wrap IntKind.u64 v5; let v7 : Int := Int.fdiv al' (2 ^ min (Int.toNat i') 64); let v8 : Int := ↑(BitVec.toNat (BitVec.ofInt 64 v7 &&& BitVec.ofInt 64 1)); let v9 : Int := IntKind.wrap IntKind.u64 v8; let v10 : Int := ↑(BitVec.toNat (BitVec.ofInt 64 v6 ||| BitVec.ofInt 64 v9)); let v11 : Int := IntKind.wrap IntKind.u64 v10; (c66 (v11, (bl', (0, ())))).bind fun ⟨y3_0, ⟨y3_1, ()⟩⟩ => ((c66 (v4, (bh', (y3_1, ())))).bind fun ⟨y4_0, ⟨y4_1, ()⟩⟩ => ((bif decide (0 ≤ i') then some () else none).bind fun () => (let v12 : Int := 1 * 2 ^ min (Int.toNat i') 64; let v13 : Int := IntKind.wrap IntKind.u64 v12; let v14 : Int := ↑(BitVec.toNat (BitVec.ofInt 64 ql' ||| BitVec.ofInt 64 v13)); let v15 : Int := IntKind.wrap IntKind.u64 v14; let v16 : Int := i' - 1; let v17 : Int := IntKind.wrap IntKind.i64 v16; some (.inl (al', (bh', (bl', (v15, (y4_0, (y3_0, (v17, ())))))))))))) else (bif v4 == bh' then (let v5 : Int := rl' * 2; let v6 : Int := IntKind.wrap IntKind.u64 v5; let v7 : Int := Int.fdiv al' (2 ^ min (Int.toNat i') 64); let v8 : Int := ↑(BitVec.toNat (BitVec.ofInt 64 v7 &&& BitVec.ofInt 64 1)); let v9 : Int := IntKind.wrap IntKind.u64 v8; let v10 : Int := ↑(BitVec.toNat (BitVec.ofInt 64 v6 ||| BitVec.ofInt 64 v9)); let v11 : Int := IntKind.wrap IntKind.u64 v10; bif decide (v11 ≥ bl') then ((c66 (v11, (bl', (0, ())))).bind fun ⟨y5_0, ⟨y5_1, ()⟩⟩ => ((c66 (v4, (bh', (y5_1, ())))).bind fun ⟨y6_0, ⟨y6_1, ()⟩⟩ => ((bif decide (0 ≤ i') then some () else none).bind fun () => (let v12 : Int := 1 * 2 ^ min (Int.toNat i') 64; let v13 : Int := IntKind.wrap IntKind.u64 v12; let v14 : Int := ↑(BitVec.toNat (BitVec.ofInt 64 ql' ||| BitVec.ofInt 64 v13)); let v15 : Int := IntKind.wrap IntKind.u64 v14; let v16 : Int := i' - 1; let v17 : Int := IntKind.wrap IntKind.i64 v16; some (.inl (al', (bh', (bl', (v15, (y6_0, (y5_0, (v17, ())))))))))))) else (let v12 : Int := i' - 1; let v13 : Int := IntKind.wrap IntKind.i64 v12; some (.inl (al', (bh', (bl', (ql', (v4, (v11, (v13, ())))))))))) else (let v5 : Int := rl' * 2; let v6 : Int := IntKind.wrap IntKind.u64 v5; let v7 : Int := Int.fdiv al' (2 ^ min (Int.toNat i') 64); let v8 : Int := ↑(BitVec.toNat (BitVec.ofInt 64 v7 &&& BitVec.ofInt 64 1)); let v9 : Int := IntKind.wrap IntKind.u64 v8; let v10 : Int := ↑(BitVec.toNat (BitVec.ofInt 64 v6 ||| BitVec.ofInt 64 v9)); let v11 : Int := IntKind.wrap IntKind.u64 v10; let v12 : Int := i' - 1; let v13 : Int := IntKind.wrap IntKind.i64 v12; some (.inl (al', (bh', (bl', (ql', (v4, (v11, (v13, ())))))))))))) else (some (.inr (ql', (rh', (rl', ()))))))
def R72_0 : LA72_0 → Option (LA72_0 ⊕ LB72_0) := Q72_0 N73 (cSub64 (τ := τ)).f
def L72_0 : Lc τ := ⟨li72_0, itrs R72_0, lo72_0⟩
def M72 (c73 : A73 → Option B73) (c66 : (Int × Int × Int × Unit) → Option (Int × Int × Unit)) (l72_0 : LA72_0 → Option LB72_0) : A72 → Option B72 := fun ⟨ah', ⟨al', ⟨bh', ⟨bl', ()⟩⟩⟩⟩ => (bif bh' == 0 then ((bif !bl' == 0 then some () else none).bind fun () => ((bif !bl' == 0 then some () else none).bind fun () => (let v0 : Int := Int.tmod ah' bl'; (c73 (v0, (al', (bl', ())))).bind fun ⟨y3_0, ⟨y3_1, ()⟩⟩ => (let v1 : Int := Int.tdiv ah' bl'; let v2 : Int := IntKind.wrap IntKind.u64 v1; some (v2, (y3_0, (0, (y3_1, ())))))))) else ((l72_0 (al', (bh', (bl', (0, (0, (ah', (63, ())))))))).bind fun ⟨y1_0, ⟨y1_1, ⟨y1_2, ()⟩⟩⟩ => (some (0, (y1_0, (y1_1, (y1_2, ())))))))
def N72 : A72 → Option B72 := M72 N73 (cSub64 (τ := τ)).f (itrs R72_0)
def C72 : Ctr τ := ⟨i72, o72, N72⟩
theorem t72_66 : Sound κ Try.prog cSub64 66 := sub64_sound Try.func66 (by kernel_rfl) (by kernel_rfl) (by kernel_rfl) (by kernel_rfl)
theorem g72 : GOK κ Try.prog (G72 N73 (cSub64 (τ := τ)).f) := (gok_cons s73 (gok_cons t72_66 gok_nil))
theorem le72_0 : ∀ (c73 : A73 → Option B73) (c66 : (Int × Int × Int × Unit) → Option (Int × Int × Unit)) x, Q72_0 c73 c66 x = run Try.prog κ (G72 c73 c66) (tabL []) 0 (loopAt Try.f72 0) (li72_0.build x) (rnd li72_0 lo72_0) := fun c73 c66 x => by kernel_rfl
theorem linner72_0 : ∀ Z : Zn, Z.rl = [] → 82 ≤ Z.nt → ∀ p ∈ loops 0 (loopAt Try.f72 0), ∀ C, (tabL []) p.1 = some C → LoopOK κ Try.prog Z p.2 C := fun Z h n => fun p hp => (by cases (show p ∈ ([] : List (Nat × Code)) from hp))
theorem lk72_0 : ∀ Z : Zn, Z.rl = [] → 82 ≤ Z.nt → LoopOK κ Try.prog Z (loopAt Try.f72 0) L72_0 := fun Z h n => loop_ok (S := (tabL [])) R72_0 (by kernel_rfl) g72 (by rw [h]; exact dsts_mono n _ (by kernel_rfl)) (linner72_0 Z h n) (by kernel_rfl) (by kernel_rfl) (le72_0 N73 (cSub64 (τ := τ)).f) itrs_rounds
theorem lall72 : ∀ Z : Zn, Z.rl = C72.o.keeps → Try.f72.ntmps ≤ Z.nt → ∀ p ∈ loops 0 (bodyOf Try.f72), ∀ C, (tabL [(0, L72_0)]) p.1 = some C → LoopOK κ Try.prog Z p.2 C := fun Z h n => all_loops [(0, loopAt Try.f72 0)] (by kernel_rfl) (all_cons (fun C hC => (Option.some.inj hC : L72_0 = C) ▸ lk72_0 Z h n) (fun _ h => by cases h))
theorem e72 : ∀ (c73 : A73 → Option B73) (c66 : (Int × Int × Int × Unit) → Option (Int × Int × Unit)) (l72_0 : LA72_0 → Option LB72_0) x, M72 c73 c66 l72_0 x = fnE Try.prog κ (G72 c73 c66) (tabL [(0, (⟨li72_0, l72_0, lo72_0⟩ : Lc τ))]) Try.f72 i72 o72 x := fun c73 c66 l72_0 x => by kernel_rfl
theorem s72 : Sound κ Try.prog C72 72 := fn_sound (S := (tabL [(0, L72_0)])) (F := Try.f72) (code := bodyOf Try.f72) (by kernel_rfl) g72 Try.func72 (by kernel_rfl) (by kernel_rfl) (by kernel_rfl) lall72 (by kernel_rfl) (by kernel_rfl) fun x y h => (e72 N73 (cSub64 (τ := τ)).f (itrs R72_0) x).symm.trans h
end Go.Proofs.Ytgdnleanagclaaa.E
namespace Go.Proofs.Ytgdnleanagclaaa.E
open Go
set_option linter.unusedVariables false
set_option maxRecDepth 100000
abbrev A70 : Type := ((Int × Int) × (Int × Int) × Unit)
abbrev B70 : Type := ((Int × Int) × (Int × Int) × Int × Unit)
def i70 : Fr τ A70 := (.val 0 (.pair (.int .i64) (.int .u64)) (.val 1 (.pair (.int .i64) (.int .u64)) .nil))
def o70 : Fr τ B70 := (.val 1000 (.pair (.int .i64) (.int .u64)) (.val 1001 (.pair (.int .i64) (.int .u64)) (.val 1002 (.int .i64) .nil)))
def G70 (c51 : A51 → Option B51) (c72 : A72 → Option B72) (c55 : A55 → Option B55) : Nat → Option (Ctr τ) := tabG [(51, (⟨i51, o51, c51⟩ : Ctr τ)), (72, (⟨i72, o72, c72⟩ : Ctr τ)), (55, (⟨i55, o55, c55⟩ : Ctr τ))]
def M70 (c51 : A51 → Option B51) (c72 : A72 → Option B72) (c55 : A55 → Option B55) : A70 → Option B70 := fun ⟨⟨a'_0, a'_1⟩, ⟨⟨b'_0, b'_1⟩, ()⟩⟩ => (bif b'_0 == 0 && b'_1 == 0 then (some ((0, 0), ((0, 0), (20, ())))) else ((c51 ((a'_0, a'_1), ())).bind fun ⟨y1_0, ⟨y1_1, ()⟩⟩ => ((c51 ((b'_0, b'_1), ())).bind fun ⟨y2_0, ⟨y2_1, ()⟩⟩ => ((c72 (y1_0, (y1_1, (y2_0, (y2_1, ()))))).bind fun ⟨y3_0, ⟨y3_1, ⟨y3_2, ⟨y3_3, ()⟩⟩⟩⟩ => ((c55 (!decide (a'_0 < 0) == decide (b'_0 < 0), (y3_0, (y3_1, ())))).bind fun ⟨⟨y4_0, y4_1⟩, ⟨y4_2, ()⟩⟩ => (bif y4_2 != 0 then (some ((0, 0), ((0, 0), (y4_2, ())))) else ((c55 (decide (a'_0 < 0), (y3_2, (y3_3, ())))).bind fun ⟨⟨y6_0, y6_1⟩, ⟨y6_2, ()⟩⟩ => (some ((y4_0, y4_1), ((y6_0, y6_1), (y6_2, ())))))))))))
def N70 : A70 → Option B70 := M70 N51 N72 N55
def C70 : Ctr τ := ⟨i70, o70, N70⟩
theorem g70 : GOK κ Try.prog (G70 N51 N72 N55) := (gok_cons s51 (gok_cons s72 (gok_cons s55 gok_nil)))
theorem lall70 : ∀ Z : Zn, Z.rl = C70.o.keeps → Try.f70.ntmps ≤ Z.nt → ∀ p ∈ loops 0 (bodyOf Try.f70), ∀ C, (tabL []) p.1 = some C → LoopOK κ Try.prog Z p.2 C := fun Z h n => fun p hp => (by cases (show p ∈ ([] : List (Nat × Code)) from hp))
theorem e70 : ∀ (c51 : A51 → Option B51) (c72 : A72 → Option B72) (c55 : A55 → Option B55) x, M70 c51 c72 c55 x = fnE Try.prog κ (G70 c51 c72 c55) (tabL []) Try.f70 i70 o70 x := fun c51 c72 c55 x => by kernel_rfl
theorem s70 : Sound κ Try.prog C70 70 := fn_sound (S := (tabL [])) (F := Try.f70) (code := bodyOf Try.f70) (by kernel_rfl) g70 Try.func70 (by kernel_rfl) (by kernel_rfl) (by kernel_rfl) lall70 (by kernel_rfl) (by kernel_rfl) fun x y h => (e70 N51 N72 N55 x).symm.trans h
end Go.Proofs.Ytgdnleanagclaaa.E
namespace Go.Proofs.Ytgdnleanagclaaa.E
open Go
set_option linter.unusedVariables false
set_option maxRecDepth 100000
abbrev A71 : Type := ((Int × Int) × (Int × Int) × (Int × Int) × Int × Unit)
abbrev B71 : Type := (Bool × Unit)
def i71 : Fr τ A71 := (.val 0 (.pair (.int .i64) (.int .u64)) (.val 1 (.pair (.int .i64) (.int .u64)) (.val 2 (.pair (.int .i64) (.int .u64)) (.val 3 (.int .i64) .nil))))
def o71 : Fr τ B71 := (.val 1000 .bool .nil)
def G71 (c51 : A51 → Option B51) (c66 : (Int × Int × Int × Unit) → Option (Int × Int × Unit)) : Nat → Option (Ctr τ) := tabG [(51, (⟨i51, o51, c51⟩ : Ctr τ)), (66, ({ (cSub64 (τ := τ)) with f := c66 } : Ctr τ))]
def M71 (c51 : A51 → Option B51) (c66 : (Int × Int × Int × Unit) → Option (Int × Int × Unit)) : A71 → Option B71 := fun ⟨⟨q'_0, q'_1⟩, ⟨⟨r'_0, r'_1⟩, ⟨⟨b'_0, b'_1⟩, ⟨mode', ()⟩⟩⟩⟩ => (bif mode' == 0 then (some (!decide (r'_0 < 0) == decide (b'_0 < 0), ())) else (bif mode' == 1 then (some (!!decide (r'_0 < 0) == decide (b'_0 < 0), ())) else (bif mode' == 2 then (some (false, ())) else ((c51 ((r'_0, r'_1), ())).bind fun ⟨y3_0, ⟨y3_1, ()⟩⟩ => ((c51 ((b'_0, b'_1), ())).bind fun ⟨y4_0, ⟨y4_1, ()⟩⟩ => ((c66 (y4_1, (y3_1, (0, ())))).bind fun ⟨y5_0, ⟨y5_1, ()⟩⟩ => ((c66 (y4_0, (y3_0, (y5_1, ())))).bind fun ⟨y6_0, ⟨y6_1, ()⟩⟩ => (bif decide (y3_0 > y6_0) then (some (true, ())) else (bif y3_0 == y6_0 then (bif decide (y3_1 > y5_0) then (some (true, ())) else (bif y3_0 == y6_0 then (bif y3_1 == y5_0 then (bif mode' == 3 then (some (true, ())) else (let v0 : Int := ↑(BitVec.toNat (BitVec.ofInt 64 q'_1 &&& BitVec.ofInt 64 1)); let v1 : Int := IntKind.wrap IntKind.u64 v0; some (v1 == 1, ()))) else (some (false, ()))) else (some (false, ())))) else (bif y3_0 == y6_0 then (bif y3_1 == y5_0 then (bif mode' == 3 then (some (true, ())) else (let v0 : Int := ↑(BitVec.toNat (BitVec.ofInt 64 q'_1 &&& BitVec.ofInt 64 1)); let v1 : Int := IntKind.wrap IntKind.u64 v0; some (v1 == 1, ()))) else (some (false, ()))) else (some (false, ()))))))))))))
def N71 : A71 → Option B71 := M71 N51 (cSub64 (τ := τ)).f
def C71 : Ctr τ := ⟨i71, o71, N71⟩
theorem t71_66 : Sound κ Try.prog cSub64 66 := sub64_sound Try.func66 (by kernel_rfl) (by kernel_rfl) (by kernel_rfl) (by kernel_rfl)
theorem g71 : GOK κ Try.prog (G71 N51 (cSub64 (τ := τ)).f) := (gok_cons s51 (gok_cons t71_66 gok_nil))
theorem lall71 : ∀ Z : Zn, Z.rl = C71.o.keeps → Try.f71.ntmps ≤ Z.nt → ∀ p ∈ loops 0 (bodyOf Try.f71), ∀ C, (tabL []) p.1 = some C → LoopOK κ Try.prog Z p.2 C := fun Z h n => fun p hp => (by cases (show p ∈ ([] : List (Nat × Code)) from hp))
theorem e71 : ∀ (c51 : A51 → Option B51) (c66 : (Int × Int × Int × Unit) → Option (Int × Int × Unit)) x, M71 c51 c66 x = fnE Try.prog κ (G71 c51 c66) (tabL []) Try.f71 i71 o71 x := fun c51 c66 x => by kernel_rfl
theorem s71 : Sound κ Try.prog C71 71 := fn_sound (S := (tabL [])) (F := Try.f71) (code := bodyOf Try.f71) (by kernel_rfl) g71 Try.func71 (by kernel_rfl) (by kernel_rfl) (by kernel_rfl) lall71 (by kernel_rfl) (by kernel_rfl) fun x y h => (e71 N51 (cSub64 (τ := τ)).f x).symm.trans h
end Go.Proofs.Ytgdnleanagclaaa.E
namespace Go.Proofs.Ytgdnleanagclaaa.E
open Go
set_option linter.unusedVariables false
set_option maxRecDepth 100000
abbrev A68 : Type := ((Int × Int) × (Int × Int) × Int × Unit)
abbrev B68 : Type := ((Int × Int) × Int × Unit)
def i68 : Fr τ A68 := (.val 0 (.pair (.int .i64) (.int .u64)) (.val 1 (.pair (.int .i64) (.int .u64)) (.val 2 (.int .i64) .nil)))
def o68 : Fr τ B68 := (.val 1000 (.pair (.int .i64) (.int .u64)) (.val 1001 (.int .i64) .nil))
def G68 (c70 : A70 → Option B70) (c71 : A71 → Option B71) (c22 : A22 → Option B22) (c47 : A47 → Option B47) (c29 : A29 → Option B29) : Nat → Option (Ctr τ) := tabG [(70, (⟨i70, o70, c70⟩ : Ctr τ)), (71, (⟨i71, o71, c71⟩ : Ctr τ)), (22, (⟨i22, o22, c22⟩ : Ctr τ)), (47, (⟨i47, o47, c47⟩ : Ctr τ)), (29, (⟨i29, o29, c29⟩ : Ctr τ))]
def M68 (c70 : A70 → Option B70) (c71 : A71 → Option B71) (c22 : A22 → Option B22) (c47 : A47 → Option B47) (c29 : A29 → Option B29) : A68 → Option B68 := fun ⟨⟨a'_0, a'_1⟩, ⟨⟨b'_0, b'_1⟩, ⟨mode', ()⟩⟩⟩ => (bif decide (mode' < 0) then (some ((0, 0), (1, ()))) else (bif decide (mode' > 4) then (some ((0, 0), (1, ()))) else ((c70 ((a'_0, a'_1), ((b'_0, b'_1), ()))).bind fun ⟨⟨y2_0, y2_1⟩, ⟨⟨y2_2, y2_3⟩, ⟨y2_4, ()⟩⟩⟩ => (bif y2_4 != 0 then (some ((y2_0, y2_1), (y2_4, ()))) else (bif y2_2 == 0 && y2_3 == 0 then (some ((y2_0, y2_1), (y2_4, ()))) else ((c71 ((y2_0, y2_1), ((y2_2, y2_3), ((b'_0, b'_1), (mode', ()))))).bind fun ⟨y5, ()⟩ => (bif !y5 then (some ((y2_0, y2_1), (y2_4, ()))) else (bif !decide (a'_0 < 0) == decide (b'_0 < 0) then ((c22 (1, ())).bind fun ⟨⟨y8_0, y8_1⟩, ()⟩ => ((c47 ((y2_0, y2_1), ((y8_0, y8_1), ()))).bind fun ⟨⟨y9_0, y9_1⟩, ⟨y9_2, ()⟩⟩ => (some ((y9_0, y9_1), (y9_2, ()))))) else ((c22 (1, ())).bind fun ⟨⟨y8_0, y8_1⟩, ()⟩ => ((c29 ((y2_0, y2_1), ((y8_0, y8_1), ()))).bind fun ⟨⟨y9_0, y9_1⟩, ⟨y9_2, ()⟩⟩ => (some ((y9_0, y9_1), (y9_2, ())))))))))))))
def N68 : A68 → Option B68 := M68 N70 N71 N22 N47 N29
def C68 : Ctr τ := ⟨i68, o68, N68⟩
theorem g68 : GOK κ Try.prog (G68 N70 N71 N22 N47 N29) := (gok_cons s70 (gok_cons s71 (gok_cons s22 (gok_cons s47 (gok_cons s29 gok_nil)))))
theorem lall68 : ∀ Z : Zn, Z.rl = C68.o.keeps → Try.f68.ntmps ≤ Z.nt → ∀ p ∈ loops 0 (bodyOf Try.f68), ∀ C, (tabL []) p.1 = some C → LoopOK κ Try.prog Z p.2 C := fun Z h n => fun p hp => (by cases (show p ∈ ([] : List (Nat × Code)) from hp))
theorem e68 : ∀ (c70 : A70 → Option B70) (c71 : A71 → Option B71) (c22 : A22 → Option B22) (c47 : A47 → Option B47) (c29 : A29 → Option B29) x, M68 c70 c71 c22 c47 c29 x = fnE Try.prog κ (G68 c70 c71 c22 c47 c29) (tabL []) Try.f68 i68 o68 x := fun c70 c71 c22 c47 c29 x => by kernel_rfl
theorem s68 : Sound κ Try.prog C68 68 := fn_sound (S := (tabL [])) (F := Try.f68) (code := bodyOf Try.f68) (by kernel_rfl) g68 Try.func68 (by kernel_rfl) (by kernel_rfl) (by kernel_rfl) lall68 (by kernel_rfl) (by kernel_rfl) fun x y h => (e68 N70 N71 N22 N47 N29 x).symm.trans h
end Go.Proofs.Ytgdnleanagclaaa.E
namespace Go.Proofs.Ytgdnleanagclaaa.E
open Go
set_option linter.unusedVariables false
set_option maxRecDepth 100000
abbrev A69 : Type := ((Int × Int) × Unit)
abbrev B69 : Type := (Int × Bool × Unit)
def i69 : Fr τ A69 := (.val 0 (.pair (.int .i64) (.int .u64)) .nil)
def o69 : Fr τ B69 := (.val 1000 (.int .i64) (.val 1001 .bool .nil))
def G69 : Nat → Option (Ctr τ) := tabG []
def M69 : A69 → Option B69 := fun ⟨⟨w'_0, w'_1⟩, ()⟩ => (let v0 : Int := IntKind.wrap IntKind.i64 w'_1; let v1 : Int := Int.fdiv v0 9223372036854775808; bif w'_0 != v1 then (some (0, (false, ()))) else (some (v0, (true, ()))))
def N69 : A69 → Option B69 := M69
def C69 : Ctr τ := ⟨i69, o69, N69⟩
theorem g69 : GOK κ Try.prog (G69) := gok_nil
theorem lall69 : ∀ Z : Zn, Z.rl = C69.o.keeps → Try.f69.ntmps ≤ Z.nt → ∀ p ∈ loops 0 (bodyOf Try.f69), ∀ C, (tabL []) p.1 = some C → LoopOK κ Try.prog Z p.2 C := fun Z h n => fun p hp => (by cases (show p ∈ ([] : List (Nat × Code)) from hp))
theorem e69 : ∀ x, M69 x = fnE Try.prog κ (G69) (tabL []) Try.f69 i69 o69 x := fun x => by kernel_rfl
theorem s69 : Sound κ Try.prog C69 69 := fn_sound (S := (tabL [])) (F := Try.f69) (code := bodyOf Try.f69) (by kernel_rfl) g69 Try.func69 (by kernel_rfl) (by kernel_rfl) (by kernel_rfl) lall69 (by kernel_rfl) (by kernel_rfl) fun x y h => (e69 x).symm.trans h
end Go.Proofs.Ytgdnleanagclaaa.E
namespace Go.Proofs.Ytgdnleanagclaaa.E
open Go
set_option linter.unusedVariables false
set_option maxRecDepth 100000
abbrev A62 : Type := ((((Int × Int) × ((Int × Int) × (Int × Int))) × (Int × Bool)) × (Int × Int) × (Int × Int) × Int × Unit)
abbrev B62 : Type := (Int × Bool × Unit)
def i62 : Fr τ A62 := (.val 0 (.pair (.pair (.pair (.int .i64) (.int .u64)) (.pair (.pair (.int .i64) (.int .u64)) (.pair (.int .i64) (.int .u64)))) (.pair (.int .i64) .bool)) (.val 1 (.pair (.int .i64) (.int .u64)) (.val 2 (.pair (.int .i64) (.int .u64)) (.val 3 (.int .i64) .nil))))
def o62 : Fr τ B62 := (.val 1000 (.int .i64) (.val 1001 .bool .nil))
def G62 (c35 : A35 → Option B35) (c49 : A49 → Option B49) (c68 : A68 → Option B68) (c22 : A22 → Option B22) (c29 : A29 → Option B29) (c69 : A69 → Option B69) : Nat → Option (Ctr τ) := tabG [(35, (⟨i35, o35, c35⟩ : Ctr τ)), (49, (⟨i49, o49, c49⟩ : Ctr τ)), (68, (⟨i68, o68, c68⟩ : Ctr τ)), (22, (⟨i22, o22, c22⟩ : Ctr τ)), (29, (⟨i29, o29, c29⟩ : Ctr τ)), (69, (⟨i69, o69, c69⟩ : Ctr τ))]
def M62 (c35 : A35 → Option B35) (c49 : A49 → Option B49) (c68 : A68 → Option B68) (c22 : A22 → Option B22) (c29 : A29 → Option B29) (c69 : A69 → Option B69) : A62 → Option B62 := fun ⟨⟨⟨⟨w'_0, w'_1⟩, ⟨⟨w'_2, w'_3⟩, ⟨w'_4, w'_5⟩⟩⟩, ⟨w'_6, w'_7⟩⟩, ⟨⟨v'_0, v'_1⟩, ⟨⟨d'_0, d'_1⟩, ⟨most', ()⟩⟩⟩⟩ => ((c35 ((v'_0, v'_1), ())).bind fun ⟨y0, ()⟩ => (bif !decide (y0 > 0) == w'_7 then (some (0, (true, ()))) else (bif w'_7 then ((c35 ((d'_0, d'_1), ())).bind fun ⟨y3, ()⟩ => (bif decide (y3 ≥ 0) then (some (0, (false, ()))) else (bif !w'_7 then ((c35 ((d'_0, d'_1), ())).bind fun ⟨y6, ()⟩ => (bif decide (y6 ≤ 0) then (some (0, (false, ()))) else ((c49 ((v'_0, v'_1), ())).bind fun ⟨⟨y8_0, y8_1⟩, ⟨y8_2, ()⟩⟩ => ((c68 ((y8_0, y8_1), ((d'_0, d'_1), (0, ())))).bind fun ⟨⟨y9_0, y9_1⟩, ⟨y9_2, ()⟩⟩ => (bif w'_7 then ((c68 ((y8_0, y8_1), ((d'_0, d'_1), (1, ())))).bind fun ⟨⟨y11_0, y11_1⟩, ⟨y11_2, ()⟩⟩ => ((c69 ((y11_0, y11_1), ())).bind fun ⟨y12_0, ⟨y12_1, ()⟩⟩ => (bif y12_1 then (some (y12_0, (decide (y12_0 ≤ most'), ()))) else (some (y12_0, (false, ())))))) else ((c22 (1, ())).bind fun ⟨⟨y11_0, y11_1⟩, ()⟩ => ((c29 ((y9_0, y9_1), ((y11_0, y11_1), ()))).bind fun ⟨⟨y12_0, y12_1⟩, ⟨y12_2, ()⟩⟩ => ((c69 ((y12_0, y12_1), ())).bind fun ⟨y13_0, ⟨y13_1, ()⟩⟩ => (bif y13_1 then (some (y13_0, (decide (y13_0 ≤ most'), ()))) else (some (y13_0, (false, ())))))))))))) else ((c49 ((v'_0, v'_1), ())).bind fun ⟨⟨y6_0, y6_1⟩, ⟨y6_2, ()⟩⟩ => ((c68 ((y6_0, y6_1), ((d'_0, d'_1), (0, ())))).bind fun ⟨⟨y7_0, y7_1⟩, ⟨y7_2, ()⟩⟩ => (bif w'_7 then ((c68 ((y6_0, y6_1), ((d'_0, d'_1), (1, ())))).bind fun ⟨⟨y9_0, y9_1⟩, ⟨y9_2, ()⟩⟩ => ((c69 ((y9_0, y9_1), ())).bind fun ⟨y10_0, ⟨y10_1, ()⟩⟩ => (bif y10_1 then (some (y10_0, (decide (y10_0 ≤ most'), ()))) else (some (y10_0, (false, ())))))) else ((c22 (1, ())).bind fun ⟨⟨y9_0, y9_1⟩, ()⟩ => ((c29 ((y7_0, y7_1), ((y9_0, y9_1), ()))).bind fun ⟨⟨y10_0, y10_1⟩, ⟨y10_2, ()⟩⟩ => ((c69 ((y10_0, y10_1), ())).bind fun ⟨y11_0, ⟨y11_1, ()⟩⟩ => (bif y11_1 then (some (y11_0, (decide (y11_0 ≤ most'), ()))) else (some (y11_0, (false, ()))))))))))))) else (bif !w'_7 then ((c35 ((d'_0, d'_1), ())).bind fun ⟨y4, ()⟩ => (bif decide (y4 ≤ 0) then (some (0, (false, ()))) else ((c49 ((v'_0, v'_1), ())).bind fun ⟨⟨y6_0, y6_1⟩, ⟨y6_2, ()⟩⟩ => ((c68 ((y6_0, y6_1), ((d'_0, d'_1), (0, ())))).bind fun ⟨⟨y7_0, y7_1⟩, ⟨y7_2, ()⟩⟩ => (bif w'_7 then ((c68 ((y6_0, y6_1), ((d'_0, d'_1), (1, ())))).bind fun ⟨⟨y9_0, y9_1⟩, ⟨y9_2, ()⟩⟩ => ((c69 ((y9_0, y9_1), ())).bind fun ⟨y10_0, ⟨y10_1, ()⟩⟩ => (bif y10_1 then (some (y10_0, (decide (y10_0 ≤ most'), ()))) else (some (y10_0, (false, ())))))) else ((c22 (1, ())).bind fun ⟨⟨y9_0, y9_1⟩, ()⟩ => ((c29 ((y7_0, y7_1), ((y9_0, y9_1), ()))).bind fun ⟨⟨y10_0, y10_1⟩, ⟨y10_2, ()⟩⟩ => ((c69 ((y10_0, y10_1), ())).bind fun ⟨y11_0, ⟨y11_1, ()⟩⟩ => (bif y11_1 then (some (y11_0, (decide (y11_0 ≤ most'), ()))) else (some (y11_0, (false, ())))))))))))) else ((c49 ((v'_0, v'_1), ())).bind fun ⟨⟨y4_0, y4_1⟩, ⟨y4_2, ()⟩⟩ => ((c68 ((y4_0, y4_1), ((d'_0, d'_1), (0, ())))).bind fun ⟨⟨y5_0, y5_1⟩, ⟨y5_2, ()⟩⟩ => (bif w'_7 then ((c68 ((y4_0, y4_1), ((d'_0, d'_1), (1, ())))).bind fun ⟨⟨y7_0, y7_1⟩, ⟨y7_2, ()⟩⟩ => ((c69 ((y7_0, y7_1), ())).bind fun ⟨y8_0, ⟨y8_1, ()⟩⟩ => (bif y8_1 then (some (y8_0, (decide (y8_0 ≤ most'), ()))) else (some (y8_0, (false, ())))))) else ((c22 (1, ())).bind fun ⟨⟨y7_0, y7_1⟩, ()⟩ => ((c29 ((y5_0, y5_1), ((y7_0, y7_1), ()))).bind fun ⟨⟨y8_0, y8_1⟩, ⟨y8_2, ()⟩⟩ => ((c69 ((y8_0, y8_1), ())).bind fun ⟨y9_0, ⟨y9_1, ()⟩⟩ => (bif y9_1 then (some (y9_0, (decide (y9_0 ≤ most'), ()))) else (some (y9_0, (false, ()))))))))))))))
def N62 : A62 → Option B62 := M62 N35 N49 N68 N22 N29 N69
def C62 : Ctr τ := ⟨i62, o62, N62⟩
theorem g62 : GOK κ Try.prog (G62 N35 N49 N68 N22 N29 N69) := (gok_cons s35 (gok_cons s49 (gok_cons s68 (gok_cons s22 (gok_cons s29 (gok_cons s69 gok_nil))))))
theorem lall62 : ∀ Z : Zn, Z.rl = C62.o.keeps → Try.f62.ntmps ≤ Z.nt → ∀ p ∈ loops 0 (bodyOf Try.f62), ∀ C, (tabL []) p.1 = some C → LoopOK κ Try.prog Z p.2 C := fun Z h n => fun p hp => (by cases (show p ∈ ([] : List (Nat × Code)) from hp))
theorem e62 : ∀ (c35 : A35 → Option B35) (c49 : A49 → Option B49) (c68 : A68 → Option B68) (c22 : A22 → Option B22) (c29 : A29 → Option B29) (c69 : A69 → Option B69) x, M62 c35 c49 c68 c22 c29 c69 x = fnE Try.prog κ (G62 c35 c49 c68 c22 c29 c69) (tabL []) Try.f62 i62 o62 x := fun c35 c49 c68 c22 c29 c69 x => by kernel_rfl
theorem s62 : Sound κ Try.prog C62 62 := fn_sound (S := (tabL [])) (F := Try.f62) (code := bodyOf Try.f62) (by kernel_rfl) g62 Try.func62 (by kernel_rfl) (by kernel_rfl) (by kernel_rfl) lall62 (by kernel_rfl) (by kernel_rfl) fun x y h => (e62 N35 N49 N68 N22 N29 N69 x).symm.trans h
end Go.Proofs.Ytgdnleanagclaaa.E
namespace Go.Proofs.Ytgdnleanagclaaa.E
open Go
set_option linter.unusedVariables false
set_option maxRecDepth 100000
abbrev A37 : Type := ((((Int × Int) × ((Int × Int) × (Int × Int))) × (Int × Bool)) × Int × Int × Unit)
abbrev B37 : Type := (Int × Bool × Unit)
def i37 : Fr τ A37 := (.val 0 (.pair (.pair (.pair (.int .i64) (.int .u64)) (.pair (.pair (.int .i64) (.int .u64)) (.pair (.int .i64) (.int .u64)))) (.pair (.int .i64) .bool)) (.val 1 (.int .i64) (.val 2 (.int .i64) .nil)))
def o37 : Fr τ B37 := (.val 1000 (.int .i64) (.val 1001 .bool .nil))
def G37 (c36 : A36 → Option B36) (c62 : A62 → Option B62) : Nat → Option (Ctr τ) := tabG [(36, (⟨i36, o36, c36⟩ : Ctr τ)), (62, (⟨i62, o62, c62⟩ : Ctr τ))]
def M37 (c36 : A36 → Option B36) (c62 : A62 → Option B62) : A37 → Option B37 := fun ⟨⟨⟨⟨w'_0, w'_1⟩, ⟨⟨w'_2, w'_3⟩, ⟨w'_4, w'_5⟩⟩⟩, ⟨w'_6, w'_7⟩⟩, ⟨lo', ⟨hi', ()⟩⟩⟩ => (bif decide (lo' > hi') then (some (0, (false, ()))) else ((c36 ((((w'_0, w'_1), ((w'_2, w'_3), (w'_4, w'_5))), (w'_6, w'_7)), (lo', ()))).bind fun ⟨⟨y1_0, y1_1⟩, ()⟩ => (let v0 : Int := hi' - lo'; let v1 : Int := IntKind.wrap IntKind.i64 v0; (c62 ((((w'_0, w'_1), ((w'_2, w'_3), (w'_4, w'_5))), (w'_6, w'_7)), ((y1_0, y1_1), ((w'_2, w'_3), (v1, ()))))).bind fun ⟨y2_0, ⟨y2_1, ()⟩⟩ => (let v2 : Int := lo' + y2_0; let v3 : Int := IntKind.wrap IntKind.i64 v2; some (v3, (y2_1, ()))))))
def N37 : A37 → Option B37 := M37 N36 N62
def C37 : Ctr τ := ⟨i37, o37, N37⟩
theorem g37 : GOK κ Try.prog (G37 N36 N62) := (gok_cons s36 (gok_cons s62 gok_nil))
theorem lall37 : ∀ Z : Zn, Z.rl = C37.o.keeps → Try.f37.ntmps ≤ Z.nt → ∀ p ∈ loops 0 (bodyOf Try.f37), ∀ C, (tabL []) p.1 = some C → LoopOK κ Try.prog Z p.2 C := fun Z h n => fun p hp => (by cases (show p ∈ ([] : List (Nat × Code)) from hp))
theorem e37 : ∀ (c36 : A36 → Option B36) (c62 : A62 → Option B62) x, M37 c36 c62 x = fnE Try.prog κ (G37 c36 c62) (tabL []) Try.f37 i37 o37 x := fun c36 c62 x => by kernel_rfl
theorem s37 : Sound κ Try.prog C37 37 := fn_sound (S := (tabL [])) (F := Try.f37) (code := bodyOf Try.f37) (by kernel_rfl) g37 Try.func37 (by kernel_rfl) (by kernel_rfl) (by kernel_rfl) lall37 (by kernel_rfl) (by kernel_rfl) fun x y h => (e37 N36 N62 x).symm.trans h
end Go.Proofs.Ytgdnleanagclaaa.E
namespace Go.Proofs.Ytgdnleanagclaaa.E
open Go
set_option linter.unusedVariables false
set_option maxRecDepth 100000
abbrev A39 : Type := ((((Int × Int) × ((Int × Int) × (Int × Int))) × (Int × Bool)) × Int × Unit)
abbrev B39 : Type := (Int × Int × Unit)
def i39 : Fr τ A39 := (.val 0 (.pair (.pair (.pair (.int .i64) (.int .u64)) (.pair (.pair (.int .i64) (.int .u64)) (.pair (.int .i64) (.int .u64)))) (.pair (.int .i64) .bool)) (.val 1 (.int .i64) .nil))
def o39 : Fr τ B39 := (.val 1000 (.int .i64) (.val 1001 (.int .i64) .nil))
def G39 : Nat → Option (Ctr τ) := tabG []
def M39 : A39 → Option B39 := fun ⟨⟨⟨⟨w'_0, w'_1⟩, ⟨⟨w'_2, w'_3⟩, ⟨w'_4, w'_5⟩⟩⟩, ⟨w'_6, w'_7⟩⟩, ⟨k', ()⟩⟩ => (let v0 : Int := k' - 1; let v1 : Int := IntKind.wrap IntKind.i64 v0; let v2 : Int := v1 * w'_6; let v3 : Int := IntKind.wrap IntKind.i64 v2; let v4 : Int := v3 + 1; let v5 : Int := IntKind.wrap IntKind.i64 v4; let v6 : Int := k' * w'_6; let v7 : Int := IntKind.wrap IntKind.i64 v6; some (v5, (if 1099511627776 < v7 then 1099511627776 else v7, ())))
def N39 : A39 → Option B39 := M39
def C39 : Ctr τ := ⟨i39, o39, N39⟩
theorem g39 : GOK κ Try.prog (G39) := gok_nil
theorem lall39 : ∀ Z : Zn, Z.rl = C39.o.keeps → Try.f39.ntmps ≤ Z.nt → ∀ p ∈ loops 0 (bodyOf Try.f39), ∀ C, (tabL []) p.1 = some C → LoopOK κ Try.prog Z p.2 C := fun Z h n => fun p hp => (by cases (show p ∈ ([] : List (Nat × Code)) from hp))
theorem e39 : ∀ x, M39 x = fnE Try.prog κ (G39) (tabL []) Try.f39 i39 o39 x := fun x => by kernel_rfl
theorem s39 : Sound κ Try.prog C39 39 := fn_sound (S := (tabL [])) (F := Try.f39) (code := bodyOf Try.f39) (by kernel_rfl) g39 Try.func39 (by kernel_rfl) (by kernel_rfl) (by kernel_rfl) lall39 (by kernel_rfl) (by kernel_rfl) fun x y h => (e39 x).symm.trans h
end Go.Proofs.Ytgdnleanagclaaa.E
namespace Go.Proofs.Ytgdnleanagclaaa.E
open Go
set_option linter.unusedVariables false
set_option maxRecDepth 100000
abbrev A38 : Type := ((((Int × Int) × ((Int × Int) × (Int × Int))) × (Int × Bool)) × Int × Int × Unit)
abbrev B38 : Type := (Int × Bool × Unit)
def i38 : Fr τ A38 := (.val 0 (.pair (.pair (.pair (.int .i64) (.int .u64)) (.pair (.pair (.int .i64) (.int .u64)) (.pair (.int .i64) (.int .u64)))) (.pair (.int .i64) .bool)) (.val 1 (.int .i64) (.val 2 (.int .i64) .nil)))
def o38 : Fr τ B38 := (.val 1000 (.int .i64) (.val 1001 .bool .nil))
def G38 (c22 : A22 → Option B22) (c27 : A27 → Option B27) (c29 : A29 → Option B29) (c39 : A39 → Option B39) (c36 : A36 → Option B36) (c62 : A62 → Option B62) : Nat → Option (Ctr τ) := tabG [(22, (⟨i22, o22, c22⟩ : Ctr τ)), (27, (⟨i27, o27, c27⟩ : Ctr τ)), (29, (⟨i29, o29, c29⟩ : Ctr τ)), (39, (⟨i39, o39, c39⟩ : Ctr τ)), (36, (⟨i36, o36, c36⟩ : Ctr τ)), (62, (⟨i62, o62, c62⟩ : Ctr τ))]
def M38 (c22 : A22 → Option B22) (c27 : A27 → Option B27) (c29 : A29 → Option B29) (c39 : A39 → Option B39) (c36 : A36 → Option B36) (c62 : A62 → Option B62) : A38 → Option B38 := fun ⟨⟨⟨⟨w'_0, w'_1⟩, ⟨⟨w'_2, w'_3⟩, ⟨w'_4, w'_5⟩⟩⟩, ⟨w'_6, w'_7⟩⟩, ⟨k', ⟨most', ()⟩⟩⟩ => (bif decide (k' > most') then (some (0, (false, ()))) else ((c22 (w'_6, ())).bind fun ⟨⟨y1_0, y1_1⟩, ()⟩ => ((c27 ((w'_2, w'_3), ((y1_0, y1_1), ()))).bind fun ⟨⟨y2_0, y2_1⟩, ⟨y2_2, ()⟩⟩ => ((c29 ((y2_0, y2_1), ((w'_4, w'_5), ()))).bind fun ⟨⟨y3_0, y3_1⟩, ⟨y3_2, ()⟩⟩ => ((c39 ((((w'_0, w'_1), ((w'_2, w'_3), (w'_4, w'_5))), (w'_6, w'_7)), (k', ()))).bind fun ⟨y4_0, ⟨y4_1, ()⟩⟩ => ((c36 ((((w'_0, w'_1), ((w'_2, w'_3), (w'_4, w'_5))), (w'_6, w'_7)), (y4_0, ()))).bind fun ⟨⟨y5_0, y5_1⟩, ()⟩ => (let v0 : Int := most' - k'; let v1 : Int := IntKind.wrap IntKind.i64 v0; (c62 ((((w'_0, w'_1), ((w'_2, w'_3), (w'_4, w'_5))), (w'_6, w'_7)), ((y5_0, y5_1), ((y3_0, y3_1), (v1, ()))))).bind fun ⟨y6_0, ⟨y6_1, ()⟩⟩ => ((c36 ((((w'_0, w'_1), ((w'_2, w'_3), (w'_4, w'_5))), (w'_6, w'_7)), (y4_1, ()))).bind fun ⟨⟨y7_0, y7_1⟩, ()⟩ => ((c62 ((((w'_0, w'_1), ((w'_2, w'_3), (w'_4, w'_5))), (w'_6, w'_7)), ((y7_0, y7_1), ((y3_0, y3_1), (v1, ()))))).bind fun ⟨y8_0, ⟨y8_1, ()⟩⟩ => (bif y6_1 then (bif y8_1 then (let v2 : Int := k' + if y8_0 < y6_0 then y8_0 else y6_0; let v3 : Int := IntKind.wrap IntKind.i64 v2; some (v3, (true, ()))) else (bif y6_1 then (let v2 : Int := k' + y6_0; let v3 : Int := IntKind.wrap IntKind.i64 v2; some (v3, (true, ()))) else (let v2 : Int := k' + y8_0; let v3 : Int := IntKind.wrap IntKind.i64 v2; some (v3, (y8_1, ()))))) else (bif y6_1 then (let v2 : Int := k' + y6_0; let v3 : Int := IntKind.wrap IntKind.i64 v2; some (v3, (true, ()))) else (let v2 : Int := k' + y8_0; let v3 : Int := IntKind.wrap IntKind.i64 v2; some (v3, (y8_1, ()))))))))))))))
def N38 : A38 → Option B38 := M38 N22 N27 N29 N39 N36 N62
def C38 : Ctr τ := ⟨i38, o38, N38⟩
theorem g38 : GOK κ Try.prog (G38 N22 N27 N29 N39 N36 N62) := (gok_cons s22 (gok_cons s27 (gok_cons s29 (gok_cons s39 (gok_cons s36 (gok_cons s62 gok_nil))))))
theorem lall38 : ∀ Z : Zn, Z.rl = C38.o.keeps → Try.f38.ntmps ≤ Z.nt → ∀ p ∈ loops 0 (bodyOf Try.f38), ∀ C, (tabL []) p.1 = some C → LoopOK κ Try.prog Z p.2 C := fun Z h n => fun p hp => (by cases (show p ∈ ([] : List (Nat × Code)) from hp))
theorem e38 : ∀ (c22 : A22 → Option B22) (c27 : A27 → Option B27) (c29 : A29 → Option B29) (c39 : A39 → Option B39) (c36 : A36 → Option B36) (c62 : A62 → Option B62) x, M38 c22 c27 c29 c39 c36 c62 x = fnE Try.prog κ (G38 c22 c27 c29 c39 c36 c62) (tabL []) Try.f38 i38 o38 x := fun c22 c27 c29 c39 c36 c62 x => by kernel_rfl
theorem s38 : Sound κ Try.prog C38 38 := fn_sound (S := (tabL [])) (F := Try.f38) (code := bodyOf Try.f38) (by kernel_rfl) g38 Try.func38 (by kernel_rfl) (by kernel_rfl) (by kernel_rfl) lall38 (by kernel_rfl) (by kernel_rfl) fun x y h => (e38 N22 N27 N29 N39 N36 N62 x).symm.trans h
end Go.Proofs.Ytgdnleanagclaaa.E
namespace Go.Proofs.Ytgdnleanagclaaa.E
open Go
set_option linter.unusedVariables false
set_option maxRecDepth 100000
abbrev A12 : Type := (((Int × Int) × ((Int × Int) × (Int × Int))) × Int × Int × Unit)
abbrev B12 : Type := (Int × Int × Unit)
def i12 : Fr τ A12 := (.val 0 (.pair (.pair (.int .i64) (.int .u64)) (.pair (.pair (.int .i64) (.int .u64)) (.pair (.int .i64) (.int .u64)))) (.val 1 (.int .i64) (.val 2 (.int .i64) .nil)))
def o12 : Fr τ B12 := (.val 1000 (.int .i64) (.val 1001 (.int .i64) .nil))
def G12 (c23 : A23 → Option B23) (c8 : A8 → Option B8) (c34 : A34 → Option B34) (c36 : A36 → Option B36) (c35 : A35 → Option B35) (c28 : A28 → Option B28) (c37 : A37 → Option B37) (c38 : A38 → Option B38) (c39 : A39 → Option B39) : Nat → Option (Ctr τ) := tabG [(23, (⟨i23, o23, c23⟩ : Ctr τ)), (8, (⟨i8, o8, c8⟩ : Ctr τ)), (34, (⟨i34, o34, c34⟩ : Ctr τ)), (36, (⟨i36, o36, c36⟩ : Ctr τ)), (35, (⟨i35, o35, c35⟩ : Ctr τ)), (28, (⟨i28, o28, c28⟩ : Ctr τ)), (37, (⟨i37, o37, c37⟩ : Ctr τ)), (38, (⟨i38, o38, c38⟩ : Ctr τ)), (39, (⟨i39, o39, c39⟩ : Ctr τ))]
def M12 (c23 : A23 → Option B23) (c8 : A8 → Option B8) (c34 : A34 → Option B34) (c36 : A36 → Option B36) (c35 : A35 → Option B35) (c28 : A28 → Option B28) (c37 : A37 → Option B37) (c38 : A38 → Option B38) (c39 : A39 → Option B39) : A12 → Option B12 := fun ⟨⟨⟨l'_0, l'_1⟩, ⟨⟨l'_2, l'_3⟩, ⟨l'_4, l'_5⟩⟩⟩, ⟨size', ⟨q', ()⟩⟩⟩ => ((c23 (size', (q', ()))).bind fun ⟨y0, ()⟩ => (bif !y0 then (some (0, (1, ()))) else ((c8 (((l'_0, l'_1), ((l'_2, l'_3), (l'_4, l'_5))), (size', ()))).bind fun ⟨⟨y2_0, y2_1⟩, ⟨y2_2, ()⟩⟩ => (bif y2_2 != 0 then (some (0, (10, ()))) else ((c34 ((y2_0, y2_1), ((4611686018427387904, 0), ()))).bind fun ⟨y4, ()⟩ => (bif decide (y4 > 0) then (some (0, (10, ()))) else ((c36 ((((l'_0, l'_1), ((l'_2, l'_3), (l'_4, l'_5))), (size', false)), (q', ()))).bind fun ⟨⟨y6_0, y6_1⟩, ()⟩ => ((c35 ((y6_0, y6_1), ())).bind fun ⟨y7, ()⟩ => ((c28 (q', (size', ()))).bind fun ⟨y8, ()⟩ => ((c28 (1099511627776, (size', ()))).bind fun ⟨y9, ()⟩ => (let v0 : Int := q' + 1; let v1 : Int := IntKind.wrap IntKind.i64 v0; let v2 : Int := y8 * size'; let v3 : Int := IntKind.wrap IntKind.i64 v2; (c37 ((((l'_0, l'_1), ((l'_2, l'_3), (l'_4, l'_5))), (size', decide (y7 > 0))), (v1, (if 1099511627776 < v3 then 1099511627776 else v3, ())))).bind fun ⟨y10_0, ⟨y10_1, ()⟩⟩ => (bif y10_1 then (some (y10_0, (0, ()))) else (let v4 : Int := y8 + 1; let v5 : Int := IntKind.wrap IntKind.i64 v4; let v6 : Int := y9 - 1; let v7 : Int := IntKind.wrap IntKind.i64 v6; (c38 ((((l'_0, l'_1), ((l'_2, l'_3), (l'_4, l'_5))), (size', decide (y7 > 0))), (v5, (v7, ())))).bind fun ⟨y12_0, ⟨y12_1, ()⟩⟩ => (bif !y12_1 then (bif decide ((if v5 > y9 then v5 else y9) > y9) then (some (1099511627777, (0, ()))) else ((c39 ((((l'_0, l'_1), ((l'_2, l'_3), (l'_4, l'_5))), (size', decide (y7 > 0))), (if v5 > y9 then v5 else y9, ()))).bind fun ⟨y15_0, ⟨y15_1, ()⟩⟩ => ((c37 ((((l'_0, l'_1), ((l'_2, l'_3), (l'_4, l'_5))), (size', decide (y7 > 0))), (y15_0, (y15_1, ())))).bind fun ⟨y16_0, ⟨y16_1, ()⟩⟩ => (bif y16_1 then (some (y16_0, (0, ()))) else (some (1099511627777, (0, ()))))))) else (bif decide (y12_0 > y9) then (some (1099511627777, (0, ()))) else ((c39 ((((l'_0, l'_1), ((l'_2, l'_3), (l'_4, l'_5))), (size', decide (y7 > 0))), (y12_0, ()))).bind fun ⟨y15_0, ⟨y15_1, ()⟩⟩ => ((c37 ((((l'_0, l'_1), ((l'_2, l'_3), (l'_4, l'_5))), (size', decide (y7 > 0))), (y15_0, (y15_1, ())))).bind fun ⟨y16_0, ⟨y16_1, ()⟩⟩ => (bif y16_1 then (some (y16_0, (0, ()))) else (some (1099511627777, (0, ())))))))))))))))))))))
def N12 : A12 → Option B12 := M12 N23 N8 N34 N36 N35 N28 N37 N38 N39
def C12 : Ctr τ := ⟨i12, o12, N12⟩
theorem g12 : GOK κ Try.prog (G12 N23 N8 N34 N36 N35 N28 N37 N38 N39) := (gok_cons s23 (gok_cons s8 (gok_cons s34 (gok_cons s36 (gok_cons s35 (gok_cons s28 (gok_cons s37 (gok_cons s38 (gok_cons s39 gok_nil)))))))))
theorem lall12 : ∀ Z : Zn, Z.rl = C12.o.keeps → Try.f12.ntmps ≤ Z.nt → ∀ p ∈ loops 0 (bodyOf Try.f12), ∀ C, (tabL []) p.1 = some C → LoopOK κ Try.prog Z p.2 C := fun Z h n => fun p hp => (by cases (show p ∈ ([] : List (Nat × Code)) from hp))
theorem e12 : ∀ (c23 : A23 → Option B23) (c8 : A8 → Option B8) (c34 : A34 → Option B34) (c36 : A36 → Option B36) (c35 : A35 → Option B35) (c28 : A28 → Option B28) (c37 : A37 → Option B37) (c38 : A38 → Option B38) (c39 : A39 → Option B39) x, M12 c23 c8 c34 c36 c35 c28 c37 c38 c39 x = fnE Try.prog κ (G12 c23 c8 c34 c36 c35 c28 c37 c38 c39) (tabL []) Try.f12 i12 o12 x := fun c23 c8 c34 c36 c35 c28 c37 c38 c39 x => by kernel_rfl
theorem s12 : Sound κ Try.prog C12 12 := fn_sound (S := (tabL [])) (F := Try.f12) (code := bodyOf Try.f12) (by kernel_rfl) g12 Try.func12 (by kernel_rfl) (by kernel_rfl) (by kernel_rfl) lall12 (by kernel_rfl) (by kernel_rfl) fun x y h => (e12 N23 N8 N34 N36 N35 N28 N37 N38 N39 x).symm.trans h
end Go.Proofs.Ytgdnleanagclaaa.E
namespace Go.Proofs.Ytgdnleanagclaaa.E
open Go
set_option linter.unusedVariables false
set_option maxRecDepth 100000
abbrev A7 : Type := (Unit)
abbrev B7 : Type := (Bool × Unit)
def i7 : Fr τ A7 := .nil
def o7 : Fr τ B7 := (.val 1000 .bool .nil)
def G7 (c21 : A21 → Option B21) (c10 : A10 → Option B10) (c12 : A12 → Option B12) (c8 : A8 → Option B8) (c22 : A22 → Option B22) : Nat → Option (Ctr τ) := tabG [(21, (⟨i21, o21, c21⟩ : Ctr τ)), (10, (⟨i10, o10, c10⟩ : Ctr τ)), (12, (⟨i12, o12, c12⟩ : Ctr τ)), (8, (⟨i8, o8, c8⟩ : Ctr τ)), (22, (⟨i22, o22, c22⟩ : Ctr τ))]
def M7 (c21 : A21 → Option B21) (c10 : A10 → Option B10) (c12 : A12 → Option B12) (c8 : A8 → Option B8) (c22 : A22 → Option B22) : A7 → Option B7 := fun () => ((c21 (5, (2, (100, ())))).bind fun ⟨⟨⟨y0_0, y0_1⟩, ⟨⟨y0_2, y0_3⟩, ⟨y0_4, y0_5⟩⟩⟩, ()⟩ => ((c10 (((y0_0, y0_1), ((y0_2, y0_3), (y0_4, y0_5))), (10, (11, ())))).bind fun ⟨⟨y1_0, y1_1⟩, ⟨y1_2, ()⟩⟩ => ((c21 (-100, (-1, (12, ())))).bind fun ⟨⟨⟨y2_0, y2_1⟩, ⟨⟨y2_2, y2_3⟩, ⟨y2_4, y2_5⟩⟩⟩, ()⟩ => ((c12 (((y2_0, y2_1), ((y2_2, y2_3), (y2_4, y2_5))), (10, (0, ())))).bind fun ⟨y3_0, ⟨y3_1, ()⟩⟩ => ((c21 (-1, (0, (0, ())))).bind fun ⟨⟨⟨y4_0, y4_1⟩, ⟨⟨y4_2, y4_3⟩, ⟨y4_4, y4_5⟩⟩⟩, ()⟩ => ((c8 (((y4_0, y4_1), ((y4_2, y4_3), (y4_4, y4_5))), (10, ()))).bind fun ⟨⟨y5_0, y5_1⟩, ⟨y5_2, ()⟩⟩ => ((c21 (0, (0, (0, ())))).bind fun ⟨⟨⟨y6_0, y6_1⟩, ⟨⟨y6_2, y6_3⟩, ⟨y6_4, y6_5⟩⟩⟩, ()⟩ => ((c12 (((y6_0, y6_1), ((y6_2, y6_3), (y6_4, y6_5))), (0, (0, ())))).bind fun ⟨y7_0, ⟨y7_1, ()⟩⟩ => (bif y1_2 == 0 then ((c22 (227, ())).bind fun ⟨⟨y9_0, y9_1⟩, ()⟩ => (bif y1_0 == y9_0 && y1_1 == y9_1 then (bif y3_1 == 0 then (bif y3_0 == 451 then (bif y5_2 == 0 then ((c22 (1, ())).bind fun ⟨⟨y14_0, y14_1⟩, ()⟩ => (bif y5_0 == y14_0 && y5_1 == y14_1 then (some (y7_1 == 1, ())) else (some (false, ())))) else (some (false, ()))) else (some (false, ()))) else (some (false, ()))) else (some (false, ())))) else (some (false, ())))))))))))
def N7 : A7 → Option B7 := M7 N21 N10 N12 N8 N22
def C7 : Ctr τ := ⟨i7, o7, N7⟩
theorem g7 : GOK κ Try.prog (G7 N21 N10 N12 N8 N22) := (gok_cons s21 (gok_cons s10 (gok_cons s12 (gok_cons s8 (gok_cons s22 gok_nil)))))
theorem lall7 : ∀ Z : Zn, Z.rl = C7.o.keeps → Try.f7.ntmps ≤ Z.nt → ∀ p ∈ loops 0 (bodyOf Try.f7), ∀ C, (tabL []) p.1 = some C → LoopOK κ Try.prog Z p.2 C := fun Z h n => fun p hp => (by cases (show p ∈ ([] : List (Nat × Code)) from hp))
theorem e7 : ∀ (c21 : A21 → Option B21) (c10 : A10 → Option B10) (c12 : A12 → Option B12) (c8 : A8 → Option B8) (c22 : A22 → Option B22) x, M7 c21 c10 c12 c8 c22 x = fnE Try.prog κ (G7 c21 c10 c12 c8 c22) (tabL []) Try.f7 i7 o7 x := fun c21 c10 c12 c8 c22 x => by kernel_rfl
theorem s7 : Sound κ Try.prog C7 7 := fn_sound (S := (tabL [])) (F := Try.f7) (code := bodyOf Try.f7) (by kernel_rfl) g7 Try.func7 (by kernel_rfl) (by kernel_rfl) (by kernel_rfl) lall7 (by kernel_rfl) (by kernel_rfl) fun x y h => (e7 N21 N10 N12 N8 N22 x).symm.trans h
end Go.Proofs.Ytgdnleanagclaaa.E
namespace Go.Proofs.Ytgdnleanagclaaa.E
open Go
set_option linter.unusedVariables false
set_option maxRecDepth 100000
abbrev A25 : Type := (Int × Int × Unit)
abbrev B25 : Type := (Bool × Unit)
def i25 : Fr τ A25 := (.val 0 (.int .i64) (.val 1 (.int .i64) .nil))
def o25 : Fr τ B25 := (.val 1000 .bool .nil)
def G25 : Nat → Option (Ctr τ) := tabG []
def M25 : A25 → Option B25 := fun ⟨size', ⟨q', ()⟩⟩ => (bif decide (size' ≥ 1) then (bif decide (size' ≤ 1000000000000) then (bif decide (q' ≥ 0) then (some (decide (q' ≤ 1099511627776), ())) else (some (false, ()))) else (some (false, ()))) else (some (false, ())))
def N25 : A25 → Option B25 := M25
def C25 : Ctr τ := ⟨i25, o25, N25⟩
theorem g25 : GOK κ Try.prog (G25) := gok_nil
theorem lall25 : ∀ Z : Zn, Z.rl = C25.o.keeps → Try.f25.ntmps ≤ Z.nt → ∀ p ∈ loops 0 (bodyOf Try.f25), ∀ C, (tabL []) p.1 = some C → LoopOK κ Try.prog Z p.2 C := fun Z h n => fun p hp => (by cases (show p ∈ ([] : List (Nat × Code)) from hp))
theorem e25 : ∀ x, M25 x = fnE Try.prog κ (G25) (tabL []) Try.f25 i25 o25 x := fun x => by kernel_rfl
theorem s25 : Sound κ Try.prog C25 25 := fn_sound (S := (tabL [])) (F := Try.f25) (code := bodyOf Try.f25) (by kernel_rfl) g25 Try.func25 (by kernel_rfl) (by kernel_rfl) (by kernel_rfl) lall25 (by kernel_rfl) (by kernel_rfl) fun x y h => (e25 x).symm.trans h
end Go.Proofs.Ytgdnleanagclaaa.E
namespace Go.Proofs.Ytgdnleanagclaaa.E
open Go
set_option linter.unusedVariables false
set_option maxRecDepth 100000
abbrev A61 : Type := ((Int × Int) × Unit)
abbrev B61 : Type := (List Int × Unit)
def i61 : Fr τ A61 := (.val 0 (.pair (.int .i64) (.int .u64)) .nil)
def o61 : Fr τ B61 := (.arr 1000 12 .u64 .nil)
def G61 : Nat → Option (Ctr τ) := tabG []
abbrev LA61_2 : Type := (List Int × List Int × Int × Unit)
abbrev LB61_2 : Type := (List Int × List Int × Unit)
def li61_2 : Fr τ LA61_2 := (.aptr 2 12 .u64 (.aptr 3 12 .u64 (.val 5 (.int .i64) .nil)))
def lo61_2 : Ot τ LB61_2 := .one (.exit 2) (.aptr 2 12 .u64 (.aptr 3 12 .u64 .nil))
def Q61_2 : LA61_2 → Option (LA61_2 ⊕ LB61_2) := fun ⟨t2', ⟨l', ⟨i', ()⟩⟩⟩ => (bif decide (i' < 12) then ((bif decide (0 ≤ i') && decide (i' < 12) then some () else none).bind fun () => ((bif Nat.blt (Int.toNat i') 12 then some () else none).bind fun () => (let v0 : Int := i' + 1; let v1 : Int := IntKind.wrap IntKind.i64 v0; some (.inl (t2', (List.set l' (Int.toNat i') 65535, (v1, ()))))))) else (some (.inr (t2', (l', ())))))
def R61_2 : LA61_2 → Option (LA61_2 ⊕ LB61_2) := Q61_2
def L61_2 : Lc τ := ⟨li61_2, itrs R61_2, lo61_2⟩
abbrev LA61_0 : Type := ((Int × (Int × Unit)) × List Int × List Int × Int × Unit)
abbrev LB61_0 : Type := ((Int × (Int × Unit)) × List Int × List Int × Unit)
def li61_0 : Fr τ LA61_0 := (.ptr 1 none 24 (.val (.int .i64) (.val (.int .u64) .nil)) (.aptr 2 12 .u64 (.aptr 3 12 .u64 (.val 4 (.int .i64) .nil))))
def lo61_0 : Ot τ LB61_0 := .one (.exit 0) (.ptr 1 none 24 (.val (.int .i64) (.val (.int .u64) .nil)) (.aptr 2 12 .u64 (.aptr 3 12 .u64 .nil)))
def Q61_0 : LA61_0 → Option (LA61_0 ⊕ LB61_0) := fun ⟨⟨w'_0, ⟨w'_1, ()⟩⟩, ⟨t2', ⟨l', ⟨i', ()⟩⟩⟩⟩ => (bif decide (i' < 4) then (let v0 : Int := 16 * i'; let v1 : Int := IntKind.wrap IntKind.i64 v0; let v2 : Int := IntKind.wrap IntKind.u64 v1; (bif decide (0 ≤ v2) then some () else none).bind fun () => ((bif decide (0 ≤ i') && decide (i' < 12) then some () else none).bind fun () => ((bif Nat.blt (Int.toNat i') 12 then some () else none).bind fun () => ((bif decide (0 ≤ v2) then some () else none).bind fun () => (let v3 : Int := i' + 4; let v4 : Int := IntKind.wrap IntKind.i64 v3; (bif decide (0 ≤ v4) && decide (v4 < 12) then some () else none).bind fun () => ((bif Nat.blt (Int.toNat v4) 12 then some () else none).bind fun () => (let v5 : Int := Int.fdiv w'_1 (2 ^ min (Int.toNat v2) 64); let v6 : Int := Int.tmod v5 65536; let v7 : Int := IntKind.wrap IntKind.u64 w'_0; let v8 : Int := Int.fdiv v7 (2 ^ min (Int.toNat v2) 64); let v9 : Int := Int.tmod v8 65536; let v10 : Int := i' + 1; let v11 : Int := IntKind.wrap IntKind.i64 v10; some (.inl ((w'_0, (w'_1, ())), (t2', (List.set (List.set l' (Int.toNat i') v6) (Int.toNat v4) v9, (v11, ())))))))))))) else (some (.inr ((w'_0, (w'_1, ())), (t2', (l', ()))))))
def R61_0 : LA61_0 → Option (LA61_0 ⊕ LB61_0) := Q61_0
def L61_0 : Lc τ := ⟨li61_0, itrs R61_0, lo61_0⟩
def M61 (l61_0 : LA61_0 → Option LB61_0) (l61_2 : LA61_2 → Option LB61_2) : A61 → Option B61 := fun ⟨⟨w'_0, w'_1⟩, ()⟩ => ((l61_0 ((w'_0, (w'_1, ())), (List.replicate 12 0, (List.replicate 12 0, (0, ()))))).bind fun ⟨⟨y0_0, ⟨y0_1, ()⟩⟩, ⟨y0_2, ⟨y0_3, ()⟩⟩⟩ => (bif decide (y0_0 < 0) then ((l61_2 (y0_2, (y0_3, (8, ())))).bind fun ⟨y2_0, ⟨y2_1, ()⟩⟩ => (some (y2_1, ()))) else (some (y0_3, ()))))
def N61 : A61 → Option B61 := M61 (itrs R61_0) (itrs R61_2)
def C61 : Ctr τ := ⟨i61, o61, N61⟩
theorem g61 : GOK κ Try.prog (G61) := gok_nil
theorem le61_2 : ∀ x, Q61_2 x = run Try.prog κ (G61) (tabL []) 2 (loopAt Try.f61 1) (li61_2.build x) (rnd li61_2 lo61_2) := fun x => by kernel_rfl
theorem le61_0 : ∀ x, Q61_0 x = run Try.prog κ (G61) (tabL []) 0 (loopAt Try.f61 0) (li61_0.build x) (rnd li61_0 lo61_0) := fun x => by kernel_rfl
theorem linner61_2 : ∀ Z : Zn, Z.rl = [] → 40 ≤ Z.nt → ∀ p ∈ loops 2 (loopAt Try.f61 1), ∀ C, (tabL []) p.1 = some C → LoopOK κ Try.prog Z p.2 C := fun Z h n => fun p hp => (by cases (show p ∈ ([] : List (Nat × Code)) from hp))
theorem lk61_2 : ∀ Z : Zn, Z.rl = [] → 40 ≤ Z.nt → LoopOK κ Try.prog Z (loopAt Try.f61 1) L61_2 := fun Z h n => loop_ok (S := (tabL [])) R61_2 (by kernel_rfl) g61 (by rw [h]; exact dsts_mono n _ (by kernel_rfl)) (linner61_2 Z h n) (by kernel_rfl) (by kernel_rfl) (le61_2) itrs_rounds
theorem linner61_0 : ∀ Z : Zn, Z.rl = [] → 40 ≤ Z.nt → ∀ p ∈ loops 0 (loopAt Try.f61 0), ∀ C, (tabL []) p.1 = some C → LoopOK κ Try.prog Z p.2 C := fun Z h n => fun p hp => (by cases (show p ∈ ([] : List (Nat × Code)) from hp))
theorem lk61_0 : ∀ Z : Zn, Z.rl = [] → 40 ≤ Z.nt → LoopOK κ Try.prog Z (loopAt Try.f61 0) L61_0 := fun Z h n => loop_ok (S := (tabL [])) R61_0 (by kernel_rfl) g61 (by rw [h]; exact dsts_mono n _ (by kernel_rfl)) (linner61_0 Z h n) (by kernel_rfl) (by kernel_rfl) (le61_0) itrs_rounds
theorem lall61 : ∀ Z : Zn, Z.rl = C61.o.keeps → Try.f61.ntmps ≤ Z.nt → ∀ p ∈ loops 0 (bodyOf Try.f61), ∀ C, (tabL [(0, L61_0), (2, L61_2)]) p.1 = some C → LoopOK κ Try.prog Z p.2 C := fun Z h n => all_loops [(0, loopAt Try.f61 0), (2, loopAt Try.f61 1)] (by kernel_rfl) (all_cons (fun C hC => (Option.some.inj hC : L61_0 = C) ▸ lk61_0 Z h n) (all_cons (fun C hC => (Option.some.inj hC : L61_2 = C) ▸ lk61_2 Z h n) (fun _ h => by cases h)))
theorem e61 : ∀ (l61_0 : LA61_0 → Option LB61_0) (l61_2 : LA61_2 → Option LB61_2) x, M61 l61_0 l61_2 x = fnE Try.prog κ (G61) (tabL [(0, (⟨li61_0, l61_0, lo61_0⟩ : Lc τ)), (2, (⟨li61_2, l61_2, lo61_2⟩ : Lc τ))]) Try.f61 i61 o61 x := fun l61_0 l61_2 x => by kernel_rfl
theorem s61 : Sound κ Try.prog C61 61 := fn_sound (S := (tabL [(0, L61_0), (2, L61_2)])) (F := Try.f61) (code := bodyOf Try.f61) (by kernel_rfl) g61 Try.func61 (by kernel_rfl) (by kernel_rfl) (by kernel_rfl) lall61 (by kernel_rfl) (by kernel_rfl) fun x y h => (e61 (itrs R61_0) (itrs R61_2) x).symm.trans h
end Go.Proofs.Ytgdnleanagclaaa.E
namespace Go.Proofs.Ytgdnleanagclaaa.E
open Go
set_option linter.unusedVariables false
set_option maxRecDepth 100000
abbrev A60 : Type := (List Int × List Int × Unit)
abbrev B60 : Type := (List Int × Unit)
def i60 : Fr τ A60 := (.arr 0 12 .u64 (.arr 1 12 .u64 .nil))
def o60 : Fr τ B60 := (.arr 1000 12 .u64 .nil)
def G60 : Nat → Option (Ctr τ) := tabG []
abbrev LA60_0 : Type := (List Int × List Int × List Int × Int × Int × Unit)
abbrev LB60_0 : Type := (List Int × List Int × Unit)
def li60_0 : Fr τ LA60_0 := (.aptr 2 12 .u64 (.aptr 3 12 .u64 (.aptr 4 12 .u64 (.val 5 (.int .u64) (.val 6 (.int .i64) .nil)))))
def lo60_0 : Ot τ LB60_0 := .one (.exit 0) (.aptr 2 12 .u64 (.aptr 4 12 .u64 .nil))
def Q60_0 : LA60_0 → Option (LA60_0 ⊕ LB60_0) := fun ⟨a', ⟨b', ⟨t4', ⟨c', ⟨i', ()⟩⟩⟩⟩⟩ => (bif decide (i' < 12) then ((bif decide (0 ≤ i') && decide (i' < 12) then some () else none).bind fun () => ((a'[Int.toNat i']?).bind fun y2 => ((bif decide (0 ≤ i') && decide (i' < 12) then some () else none).bind fun () => ((b'[Int.toNat i']?).bind fun y4 => ((bif decide (0 ≤ i') && decide (i' < 12) then some () else none).bind fun () => ((bif Nat.blt (Int.toNat i') 12 then some () else none).bind fun () => (let v0 : Int := c' + y2; let v1 : Int := IntKind.wrap IntKind.u64 v0; let v2 : Int := v1 + y4; let v3 : Int := IntKind.wrap IntKind.u64 v2; let v4 : Int := Int.tmod v3 65536; let v5 : Int := Int.tdiv v3 65536; let v6 : Int := IntKind.wrap IntKind.u64 v5; let v7 : Int := i' + 1; let v8 : Int := IntKind.wrap IntKind.i64 v7; some (.inl (List.set a' (Int.toNat i') v4, (b', (t4', (v6, (v8, ()))))))))))))) else (some (.inr (a', (t4', ())))))
def R60_0 : LA60_0 → Option (LA60_0 ⊕ LB60_0) := Q60_0
def L60_0 : Lc τ := ⟨li60_0, itrs R60_0, lo60_0⟩
def M60 (l60_0 : LA60_0 → Option LB60_0) : A60 → Option B60 := fun ⟨a', ⟨b', ()⟩⟩ => ((l60_0 (a', (b', (List.replicate 12 0, (0, (0, ())))))).bind fun ⟨y0_0, ⟨y0_1, ()⟩⟩ => (some (y0_0, ())))
def N60 : A60 → Option B60 := M60 (itrs R60_0)
def C60 : Ctr τ := ⟨i60, o60, N60⟩
theorem g60 : GOK κ Try.prog (G60) := gok_nil
theorem le60_0 : ∀ x, Q60_0 x = run Try.prog κ (G60) (tabL []) 0 (loopAt Try.f60 0) (li60_0.build x) (rnd li60_0 lo60_0) := fun x => by kernel_rfl
theorem linner60_0 : ∀ Z : Zn, Z.rl = [] → 27 ≤ Z.nt → ∀ p ∈ loops 0 (loopAt Try.f60 0), ∀ C, (tabL []) p.1 = some C → LoopOK κ Try.prog Z p.2 C := fun Z h n => fun p hp => (by cases (show p ∈ ([] : List (Nat × Code)) from hp))
theorem lk60_0 : ∀ Z : Zn, Z.rl = [] → 27 ≤ Z.nt → LoopOK κ Try.prog Z (loopAt Try.f60 0) L60_0 := fun Z h n => loop_ok (S := (tabL [])) R60_0 (by kernel_rfl) g60 (by rw [h]; exact dsts_mono n _ (by kernel_rfl)) (linner60_0 Z h n) (by kernel_rfl) (by kernel_rfl) (le60_0) itrs_rounds
theorem lall60 : ∀ Z : Zn, Z.rl = C60.o.keeps → Try.f60.ntmps ≤ Z.nt → ∀ p ∈ loops 0 (bodyOf Try.f60), ∀ C, (tabL [(0, L60_0)]) p.1 = some C → LoopOK κ Try.prog Z p.2 C := fun Z h n => all_loops [(0, loopAt Try.f60 0)] (by kernel_rfl) (all_cons (fun C hC => (Option.some.inj hC : L60_0 = C) ▸ lk60_0 Z h n) (fun _ h => by cases h))
theorem e60 : ∀ (l60_0 : LA60_0 → Option LB60_0) x, M60 l60_0 x = fnE Try.prog κ (G60) (tabL [(0, (⟨li60_0, l60_0, lo60_0⟩ : Lc τ))]) Try.f60 i60 o60 x := fun l60_0 x => by kernel_rfl
theorem s60 : Sound κ Try.prog C60 60 := fn_sound (S := (tabL [(0, L60_0)])) (F := Try.f60) (code := bodyOf Try.f60) (by kernel_rfl) g60 Try.func60 (by kernel_rfl) (by kernel_rfl) (by kernel_rfl) lall60 (by kernel_rfl) (by kernel_rfl) fun x y h => (e60 (itrs R60_0) x).symm.trans h
end Go.Proofs.Ytgdnleanagclaaa.E
namespace Go.Proofs.Ytgdnleanagclaaa.E
open Go
set_option linter.unusedVariables false
set_option maxRecDepth 100000
abbrev A63 : Type := (List Int × Unit)
abbrev B63 : Type := (List Int × Unit)
def i63 : Fr τ A63 := (.arr 0 12 .u64 .nil)
def o63 : Fr τ B63 := (.arr 1000 12 .u64 .nil)
def G63 (c60 : A60 → Option B60) : Nat → Option (Ctr τ) := tabG [(60, (⟨i60, o60, c60⟩ : Ctr τ))]
abbrev LA63_0 : Type := (List Int × List Int × Int × Unit)
abbrev LB63_0 : Type := (List Int × List Int × Unit)
def li63_0 : Fr τ LA63_0 := (.aptr 1 12 .u64 (.aptr 2 12 .u64 (.val 3 (.int .i64) .nil)))
def lo63_0 : Ot τ LB63_0 := .one (.exit 0) (.aptr 1 12 .u64 (.aptr 2 12 .u64 .nil))
def Q63_0 (c60 : A60 → Option B60) : LA63_0 → Option (LA63_0 ⊕ LB63_0) := fun ⟨a', ⟨t2', ⟨i', ()⟩⟩⟩ => (bif decide (i' < 12) then ((bif decide (0 ≤ i') && decide (i' < 12) then some () else none).bind fun () => ((a'[Int.toNat i']?).bind fun y2 => ((bif decide (0 ≤ i') && decide (i' < 12) then some () else none).bind fun () => ((bif Nat.blt (Int.toNat i') 12 then some () else none).bind fun () => (let v0 : Int := 65535 - y2; let v1 : Int := IntKind.wrap IntKind.u64 v0; let v2 : Int := i' + 1; let v3 : Int := IntKind.wrap IntKind.i64 v2; some (.inl (List.set a' (Int.toNat i') v1, (t2', (v3, ()))))))))) else (some (.inr (a', (t2', ())))))
def R63_0 : LA63_0 → Option (LA63_0 ⊕ LB63_0) := Q63_0 N60
def L63_0 : Lc τ := ⟨li63_0, itrs R63_0, lo63_0⟩
def M63 (c60 : A60 → Option B60) (l63_0 : LA63_0 → Option LB63_0) : A63 → Option B63 := fun ⟨a', ()⟩ => ((l63_0 (a', (List.replicate 12 0, (0, ())))).bind fun ⟨y0_0, ⟨y0_1, ()⟩⟩ => ((c60 (y0_0, ([1, 0, 0, 0, 0, 0, 0, 0, 0, 0, 0, 0], ()))).bind fun ⟨y1, ()⟩ => (some (y1, ()))))
def N63 : A63 → Option B63 := M63 N60 (itrs R63_0)
def C63 : Ctr τ := ⟨i63, o63, N63⟩
theorem g63 : GOK κ Try.prog (G63 N60) := (gok_cons s60 gok_nil)
theorem le63_0 : ∀ (c60 : A60 → Option B60) x, Q63_0 c60 x = run Try.prog κ (G63 c60) (tabL []) 0 (loopAt Try.f63 0) (li63_0.build x) (rnd li63_0 lo63_0) := fun c60 x => by kernel_rfl
theorem linner63_0 : ∀ Z : Zn, Z.rl = [] → 17 ≤ Z.nt → ∀ p ∈ loops 0 (loopAt Try.f63 0), ∀ C, (tabL []) p.1 = some C → LoopOK κ Try.prog Z p.2 C := fun Z h n => fun p hp => (by cases (show p ∈ ([] : List (Nat × Code)) from hp))
theorem lk63_0 : ∀ Z : Zn, Z.rl = [] → 17 ≤ Z.nt → LoopOK κ Try.prog Z (loopAt Try.f63 0) L63_0 := fun Z h n => loop_ok (S := (tabL [])) R63_0 (by kernel_rfl) g63 (by rw [h]; exact dsts_mono n _ (by kernel_rfl)) (linner63_0 Z h n) (by kernel_rfl) (by kernel_rfl) (le63_0 N60) itrs_rounds
theorem lall63 : ∀ Z : Zn, Z.rl = C63.o.keeps → Try.f63.ntmps ≤ Z.nt → ∀ p ∈ loops 0 (bodyOf Try.f63), ∀ C, (tabL [(0, L63_0)]) p.1 = some C → LoopOK κ Try.prog Z p.2 C := fun Z h n => all_loops [(0, loopAt Try.f63 0)] (by kernel_rfl) (all_cons (fun C hC => (Option.some.inj hC : L63_0 = C) ▸ lk63_0 Z h n) (fun _ h => by cases h))
theorem e63 : ∀ (c60 : A60 → Option B60) (l63_0 : LA63_0 → Option LB63_0) x, M63 c60 l63_0 x = fnE Try.prog κ (G63 c60) (tabL [(0, (⟨li63_0, l63_0, lo63_0⟩ : Lc τ))]) Try.f63 i63 o63 x := fun c60 l63_0 x => by kernel_rfl
theorem s63 : Sound κ Try.prog C63 63 := fn_sound (S := (tabL [(0, L63_0)])) (F := Try.f63) (code := bodyOf Try.f63) (by kernel_rfl) g63 Try.func63 (by kernel_rfl) (by kernel_rfl) (by kernel_rfl) lall63 (by kernel_rfl) (by kernel_rfl) fun x y h => (e63 N60 (itrs R63_0) x).symm.trans h
end Go.Proofs.Ytgdnleanagclaaa.E
namespace Go.Proofs.Ytgdnleanagclaaa.E
open Go
set_option linter.unusedVariables false
set_option maxRecDepth 100000
abbrev A67 : Type := (List Int × Unit)
abbrev B67 : Type := ((Int × Int) × Bool × Unit)
def i67 : Fr τ A67 := (.arr 0 12 .u64 .nil)
def o67 : Fr τ B67 := (.val 1000 (.pair (.int .i64) (.int .u64)) (.val 1001 .bool .nil))
def G67 : Nat → Option (Ctr τ) := tabG []
abbrev LA67_2 : Type := (List Int × (Int × (Int × Unit)) × Int × Int × Int × Unit)
abbrev LB67_2 : Type := ((Int × (Int × Unit)) × Int × Int × Unit)
def li67_2 : Fr τ LA67_2 := (.aptr 1 12 .u64 (.ptr 2 none 24 (.val (.int .i64) (.val (.int .u64) .nil)) (.val 6 (.int .u64) (.val 7 (.int .u64) (.val 8 (.int .i64) .nil)))))
def lo67_2 : Ot τ LB67_2 := .one (.exit 2) (.ptr 2 none 24 (.val (.int .i64) (.val (.int .u64) .nil)) (.val 6 (.int .u64) (.val 7 (.int .u64) .nil)))
def Q67_2 : LA67_2 → Option (LA67_2 ⊕ LB67_2) := fun ⟨l', ⟨⟨t2'_0, ⟨t2'_1, ()⟩⟩, ⟨lo', ⟨hi', ⟨i', ()⟩⟩⟩⟩⟩ => (bif decide (i' ≥ 0) then ((bif decide (0 ≤ i') && decide (i' < 12) then some () else none).bind fun () => ((l'[Int.toNat i']?).bind fun y2 => (let v0 : Int := i' + 4; let v1 : Int := IntKind.wrap IntKind.i64 v0; (bif decide (0 ≤ v1) && decide (v1 < 12) then some () else none).bind fun () => ((l'[Int.toNat v1]?).bind fun y4 => (let v2 : Int := lo' * 65536; let v3 : Int := IntKind.wrap IntKind.u64 v2; let v4 : Int := v3 + y2; let v5 : Int := IntKind.wrap IntKind.u64 v4; let v6 : Int := hi' * 65536; let v7 : Int := IntKind.wrap IntKind.u64 v6; let v8 : Int := v7 + y4; let v9 : Int := IntKind.wrap IntKind.u64 v8; let v10 : Int := i' - 1; let v11 : Int := IntKind.wrap IntKind.i64 v10; some (.inl (l', ((t2'_0, (t2'_1, ())), (v5, (v9, (v11, ()))))))))))) else (some (.inr ((t2'_0, (t2'_1, ())), (lo', (hi', ()))))))
def R67_2 : LA67_2 → Option (LA67_2 ⊕ LB67_2) := Q67_2
def L67_2 : Lc τ := ⟨li67_2, itrs R67_2, lo67_2⟩
abbrev LA67_0 : Type := (List Int × (Int × (Int × Unit)) × Int × Int × Unit)
abbrev LB67_0 : Type := (List Int × (Int × (Int × Unit)) × Unit) ⊕ ((Int × (Int × Unit)) × Bool × Unit)
def li67_0 : Fr τ LA67_0 := (.aptr 1 12 .u64 (.ptr 2 none 24 (.val (.int .i64) (.val (.int .u64) .nil)) (.val 4 (.int .u64) (.val 5 (.int .i64) .nil))))
def lo67_0 : Ot τ LB67_0 := .alt (.exit 0) (.aptr 1 12 .u64 (.ptr 2 none 24 (.val (.int .i64) (.val (.int .u64) .nil)) .nil)) (.one .ret (.ptr 2 none 24 (.val (.int .i64) (.val (.int .u64) .nil)) (.val 3 .bool .nil)))
def Q67_0 : LA67_0 → Option (LA67_0 ⊕ LB67_0) := fun ⟨l', ⟨⟨t2'_0, ⟨t2'_1, ()⟩⟩, ⟨top', ⟨i', ()⟩⟩⟩⟩ => (bif decide (i' < 12) then ((bif decide (0 ≤ i') && decide (i' < 12) then some () else none).bind fun () => ((l'[Int.toNat i']?).bind fun y2 => (bif y2 != top' then (some (.inr (.inr ((0, (0, ())), (false, ()))))) else (let v0 : Int := i' + 1; let v1 : Int := IntKind.wrap IntKind.i64 v0; some (.inl (l', ((t2'_0, (t2'_1, ())), (top', (v1, ()))))))))) else (some (.inr (.inl (l', ((t2'_0, (t2'_1, ())), ()))))))
def R67_0 : LA67_0 → Option (LA67_0 ⊕ LB67_0) := Q67_0
def L67_0 : Lc τ := ⟨li67_0, itrs R67_0, lo67_0⟩
def M67 (l67_0 : LA67_0 → Option LB67_0) (l67_2 : LA67_2 → Option LB67_2) : A67 → Option B67 := fun ⟨l', ()⟩ => ((l'[7]?).bind fun y0 => (bif decide (y0 ≥ 32768) then ((l67_0 (l', ((0, (0, ())), (65535, (8, ()))))).bind fun y2 => (match y2 with | .inl ⟨y3_0, ⟨⟨y3_1, ⟨y3_2, ()⟩⟩, ()⟩⟩ => ((l67_2 (y3_0, ((y3_1, (y3_2, ())), (0, (0, (3, ())))))).bind fun ⟨⟨y4_0, ⟨y4_1, ()⟩⟩, ⟨y4_2, ⟨y4_3, ()⟩⟩⟩ => (let v0 : Int := IntKind.wrap IntKind.i64 y4_3; some ((v0, y4_2), (true, ())))) | .inr ⟨⟨y3_0, ⟨y3_1, ()⟩⟩, ⟨y3_2, ()⟩⟩ => (some ((y3_0, y3_1), (y3_2, ()))))) else ((l67_0 (l', ((0, (0, ())), (0, (8, ()))))).bind fun y2 => (match y2 with | .inl ⟨y3_0, ⟨⟨y3_1, ⟨y3_2, ()⟩⟩, ()⟩⟩ => ((l67_2 (y3_0, ((y3_1, (y3_2, ())), (0, (0, (3, ())))))).bind fun ⟨⟨y4_0, ⟨y4_1, ()⟩⟩, ⟨y4_2, ⟨y4_3, ()⟩⟩⟩ => (let v0 : Int := IntKind.wrap IntKind.i64 y4_3; some ((v0, y4_2), (true, ())))) | .inr ⟨⟨y3_0, ⟨y3_1, ()⟩⟩, ⟨y3_2, ()⟩⟩ => (some ((y3_0, y3_1), (y3_2, ())))))))
def N67 : A67 → Option B67 := M67 (itrs R67_0) (itrs R67_2)
def C67 : Ctr τ := ⟨i67, o67, N67⟩
theorem g67 : GOK κ Try.prog (G67) := gok_nil
theorem le67_2 : ∀ x, Q67_2 x = run Try.prog κ (G67) (tabL []) 2 (loopAt Try.f67 1) (li67_2.build x) (rnd li67_2 lo67_2) := fun x => by kernel_rfl
theorem le67_0 : ∀ x, Q67_0 x = run Try.prog κ (G67) (tabL []) 0 (loopAt Try.f67 0) (li67_0.build x) (rnd li67_0 lo67_0) := fun x => by kernel_rfl
theorem linner67_2 : ∀ Z : Zn, Z.rl = [] → 43 ≤ Z.nt → ∀ p ∈ loops 2 (loopAt Try.f67 1), ∀ C, (tabL []) p.1 = some C → LoopOK κ Try.prog Z p.2 C := fun Z h n => fun p hp => (by cases (show p ∈ ([] : List (Nat × Code)) from hp))
theorem lk67_2 : ∀ Z : Zn, Z.rl = [] → 43 ≤ Z.nt → LoopOK κ Try.prog Z (loopAt Try.f67 1) L67_2 := fun Z h n => loop_ok (S := (tabL [])) R67_2 (by kernel_rfl) g67 (by rw [h]; exact dsts_mono n _ (by kernel_rfl)) (linner67_2 Z h n) (by kernel_rfl) (by kernel_rfl) (le67_2) itrs_rounds
theorem linner67_0 : ∀ Z : Zn, Z.rl = [] → 43 ≤ Z.nt → ∀ p ∈ loops 0 (loopAt Try.f67 0), ∀ C, (tabL []) p.1 = some C → LoopOK κ Try.prog Z p.2 C := fun Z h n => fun p hp => (by cases (show p ∈ ([] : List (Nat × Code)) from hp))
theorem lk67_0 : ∀ Z : Zn, Z.rl = [] → 43 ≤ Z.nt → LoopOK κ Try.prog Z (loopAt Try.f67 0) L67_0 := fun Z h n => loop_ok (S := (tabL [])) R67_0 (by kernel_rfl) g67 (by rw [h]; exact dsts_mono n _ (by kernel_rfl)) (linner67_0 Z h n) (by kernel_rfl) (by kernel_rfl) (le67_0) itrs_rounds
theorem lall67 : ∀ Z : Zn, Z.rl = C67.o.keeps → Try.f67.ntmps ≤ Z.nt → ∀ p ∈ loops 0 (bodyOf Try.f67), ∀ C, (tabL [(0, L67_0), (2, L67_2)]) p.1 = some C → LoopOK κ Try.prog Z p.2 C := fun Z h n => all_loops [(0, loopAt Try.f67 0), (2, loopAt Try.f67 1)] (by kernel_rfl) (all_cons (fun C hC => (Option.some.inj hC : L67_0 = C) ▸ lk67_0 Z h n) (all_cons (fun C hC => (Option.some.inj hC : L67_2 = C) ▸ lk67_2 Z h n) (fun _ h => by cases h)))
theorem e67 : ∀ (l67_0 : LA67_0 → Option LB67_0) (l67_2 : LA67_2 → Option LB67_2) x, M67 l67_0 l67_2 x = fnE Try.prog κ (G67) (tabL [(0, (⟨li67_0, l67_0, lo67_0⟩ : Lc τ)), (2, (⟨li67_2, l67_2, lo67_2⟩ : Lc τ))]) Try.f67 i67 o67 x := fun l67_0 l67_2 x => by kernel_rfl
theorem s67 : Sound κ Try.prog C67 67 := fn_sound (S := (tabL [(0, L67_0), (2, L67_2)])) (F := Try.f67) (code := bodyOf Try.f67) (by kernel_rfl) g67 Try.func67 (by kernel_rfl) (by kernel_rfl) (by kernel_rfl) lall67 (by kernel_rfl) (by kernel_rfl) fun x y h => (e67 (itrs R67_0) (itrs R67_2) x).symm.trans h
end Go.Proofs.Ytgdnleanagclaaa.E
namespace Go.Proofs.Ytgdnleanagclaaa.E
open Go
set_option linter.unusedVariables false
set_option maxRecDepth 100000
abbrev A59 : Type := (List Int × Unit)
abbrev B59 : Type := ((Int × Int) × Int × Unit)
def i59 : Fr τ A59 := (.arr 0 12 .u64 .nil)
def o59 : Fr τ B59 := (.val 1000 (.pair (.int .i64) (.int .u64)) (.val 1001 (.int .i64) .nil))
def G59 (c67 : A67 → Option B67) : Nat → Option (Ctr τ) := tabG [(67, (⟨i67, o67, c67⟩ : Ctr τ))]
def M59 (c67 : A67 → Option B67) : A59 → Option B59 := fun ⟨l', ()⟩ => ((c67 (l', ())).bind fun ⟨⟨y0_0, y0_1⟩, ⟨y0_2, ()⟩⟩ => (bif !y0_2 then (some ((0, 0), (10, ()))) else (some ((y0_0, y0_1), (0, ())))))
def N59 : A59 → Option B59 := M59 N67
def C59 : Ctr τ := ⟨i59, o59, N59⟩
theorem g59 : GOK κ Try.prog (G59 N67) := (gok_cons s67 gok_nil)
theorem lall59 : ∀ Z : Zn, Z.rl = C59.o.keeps → Try.f59.ntmps ≤ Z.nt → ∀ p ∈ loops 0 (bodyOf Try.f59), ∀ C, (tabL []) p.1 = some C → LoopOK κ Try.prog Z p.2 C := fun Z h n => fun p hp => (by cases (show p ∈ ([] : List (Nat × Code)) from hp))
theorem e59 : ∀ (c67 : A67 → Option B67) x, M59 c67 x = fnE Try.prog κ (G59 c67) (tabL []) Try.f59 i59 o59 x := fun c67 x => by kernel_rfl
theorem s59 : Sound κ Try.prog C59 59 := fn_sound (S := (tabL [])) (F := Try.f59) (code := bodyOf Try.f59) (by kernel_rfl) g59 Try.func59 (by kernel_rfl) (by kernel_rfl) (by kernel_rfl) lall59 (by kernel_rfl) (by kernel_rfl) fun x y h => (e59 N67 x).symm.trans h
end Go.Proofs.Ytgdnleanagclaaa.E
namespace Go.Proofs.Ytgdnleanagclaaa.E
open Go
set_option linter.unusedVariables false
set_option maxRecDepth 100000
abbrev A50 : Type := ((Int × Int) × Unit)
abbrev B50 : Type := ((Int × Int) × Int × Unit)
def i50 : Fr τ A50 := (.val 0 (.pair (.int .i64) (.int .u64)) .nil)
def o50 : Fr τ B50 := (.val 1000 (.pair (.int .i64) (.int .u64)) (.val 1001 (.int .i64) .nil))
def G50 (c61 : A61 → Option B61) (c63 : A63 → Option B63) (c59 : A59 → Option B59) : Nat → Option (Ctr τ) := tabG [(61, (⟨i61, o61, c61⟩ : Ctr τ)), (63, (⟨i63, o63, c63⟩ : Ctr τ)), (59, (⟨i59, o59, c59⟩ : Ctr τ))]
def M50 (c61 : A61 → Option B61) (c63 : A63 → Option B63) (c59 : A59 → Option B59) : A50 → Option B50 := fun ⟨⟨a'_0, a'_1⟩, ()⟩ => ((c61 ((a'_0, a'_1), ())).bind fun ⟨y0, ()⟩ => ((c63 (y0, ())).bind fun ⟨y1, ()⟩ => ((c59 (y1, ())).bind fun ⟨⟨y2_0, y2_1⟩, ⟨y2_2, ()⟩⟩ => (some ((y2_0, y2_1), (y2_2, ()))))))
def N50 : A50 → Option B50 := M50 N61 N63 N59
def C50 : Ctr τ := ⟨i50, o50, N50⟩
theorem g50 : GOK κ Try.prog (G50 N61 N63 N59) := (gok_cons s61 (gok_cons s63 (gok_cons s59 gok_nil)))
theorem lall50 : ∀ Z : Zn, Z.rl = C50.o.keeps → Try.f50.ntmps ≤ Z.nt → ∀ p ∈ loops 0 (bodyOf Try.f50), ∀ C, (tabL []) p.1 = some C → LoopOK κ Try.prog Z p.2 C := fun Z h n => fun p hp => (by cases (show p ∈ ([] : List (Nat × Code)) from hp))
theorem e50 : ∀ (c61 : A61 → Option B61) (c63 : A63 → Option B63) (c59 : A59 → Option B59) x, M50 c61 c63 c59 x = fnE Try.prog κ (G50 c61 c63 c59) (tabL []) Try.f50 i50 o50 x := fun c61 c63 c59 x => by kernel_rfl
theorem s50 : Sound κ Try.prog C50 50 := fn_sound (S := (tabL [])) (F := Try.f50) (code := bodyOf Try.f50) (by kernel_rfl) g50 Try.func50 (by kernel_rfl) (by kernel_rfl) (by kernel_rfl) lall50 (by kernel_rfl) (by kernel_rfl) fun x y h => (e50 N61 N63 N59 x).symm.trans h
end Go.Proofs.Ytgdnleanagclaaa.E
namespace Go.Proofs.Ytgdnleanagclaaa.E
open Go
set_option linter.unusedVariables false
set_option maxRecDepth 100000
abbrev A26 : Type := ((Int × Int) × Unit)
abbrev B26 : Type := ((Int × Int) × Int × Unit)
def i26 : Fr τ A26 := (.val 0 (.pair (.int .i64) (.int .u64)) .nil)
def o26 : Fr τ B26 := (.val 1000 (.pair (.int .i64) (.int .u64)) (.val 1001 (.int .i64) .nil))
def G26 (c50 : A50 → Option B50) : Nat → Option (Ctr τ) := tabG [(50, (⟨i50, o50, c50⟩ : Ctr τ))]
def M26 (c50 : A50 → Option B50) : A26 → Option B26 := fun ⟨⟨w'_0, w'_1⟩, ()⟩ => (bif decide (w'_0 < 0) then ((c50 ((w'_0, w'_1), ())).bind fun ⟨⟨y1_0, y1_1⟩, ⟨y1_2, ()⟩⟩ => (some ((y1_0, y1_1), (y1_2, ())))) else (some ((w'_0, w'_1), (0, ()))))
def N26 : A26 → Option B26 := M26 N50
def C26 : Ctr τ := ⟨i26, o26, N26⟩
theorem g26 : GOK κ Try.prog (G26 N50) := (gok_cons s50 gok_nil)
theorem lall26 : ∀ Z : Zn, Z.rl = C26.o.keeps → Try.f26.ntmps ≤ Z.nt → ∀ p ∈ loops 0 (bodyOf Try.f26), ∀ C, (tabL []) p.1 = some C → LoopOK κ Try.prog Z p.2 C := fun Z h n => fun p hp => (by cases (show p ∈ ([] : List (Nat × Code)) from hp))
theorem e26 : ∀ (c50 : A50 → Option B50) x, M26 c50 x = fnE Try.prog κ (G26 c50) (tabL []) Try.f26 i26 o26 x := fun c50 x => by kernel_rfl
theorem s26 : Sound κ Try.prog C26 26 := fn_sound (S := (tabL [])) (F := Try.f26) (code := bodyOf Try.f26) (by kernel_rfl) g26 Try.func26 (by kernel_rfl) (by kernel_rfl) (by kernel_rfl) lall26 (by kernel_rfl) (by kernel_rfl) fun x y h => (e26 N50 x).symm.trans h
end Go.Proofs.Ytgdnleanagclaaa.E
namespace Go.Proofs.Ytgdnleanagclaaa.E
open Go
set_option linter.unusedVariables false
set_option maxRecDepth 100000
abbrev A31 : Type := (Int × Unit)
abbrev B31 : Type := ((Int × Int) × Unit)
def i31 : Fr τ A31 := (.val 0 (.int .i64) .nil)
def o31 : Fr τ B31 := (.val 1000 (.pair (.int .i64) (.int .u64)) .nil)
def G31 : Nat → Option (Ctr τ) := tabG []
def M31 : A31 → Option B31 := fun ⟨v', ()⟩ => (bif decide (v' < 0) then (let v0 : Int := IntKind.wrap IntKind.u64 v'; some ((-1, v0), ())) else (let v0 : Int := IntKind.wrap IntKind.u64 v'; some ((0, v0), ())))
def N31 : A31 → Option B31 := M31
def C31 : Ctr τ := ⟨i31, o31, N31⟩
theorem g31 : GOK κ Try.prog (G31) := gok_nil
theorem lall31 : ∀ Z : Zn, Z.rl = C31.o.keeps → Try.f31.ntmps ≤ Z.nt → ∀ p ∈ loops 0 (bodyOf Try.f31), ∀ C, (tabL []) p.1 = some C → LoopOK κ Try.prog Z p.2 C := fun Z h n => fun p hp => (by cases (show p ∈ ([] : List (Nat × Code)) from hp))
theorem e31 : ∀ x, M31 x = fnE Try.prog κ (G31) (tabL []) Try.f31 i31 o31 x := fun x => by kernel_rfl
theorem s31 : Sound κ Try.prog C31 31 := fn_sound (S := (tabL [])) (F := Try.f31) (code := bodyOf Try.f31) (by kernel_rfl) g31 Try.func31 (by kernel_rfl) (by kernel_rfl) (by kernel_rfl) lall31 (by kernel_rfl) (by kernel_rfl) fun x y h => (e31 x).symm.trans h
end Go.Proofs.Ytgdnleanagclaaa.E
namespace Go.Proofs.Ytgdnleanagclaaa.E
open Go
set_option linter.unusedVariables false
set_option maxRecDepth 100000
abbrev A64 : Type := (List Int × Unit)
abbrev B64 : Type := (Bool × Unit)
def i64 : Fr τ A64 := (.arr 0 12 .u64 .nil)
def o64 : Fr τ B64 := (.val 1000 .bool .nil)
def G64 : Nat → Option (Ctr τ) := tabG []
def M64 : A64 → Option B64 := fun ⟨a', ()⟩ => ((a'[11]?).bind fun y0 => (some (decide (y0 ≥ 32768), ())))
def N64 : A64 → Option B64 := M64
def C64 : Ctr τ := ⟨i64, o64, N64⟩
theorem g64 : GOK κ Try.prog (G64) := gok_nil
theorem lall64 : ∀ Z : Zn, Z.rl = C64.o.keeps → Try.f64.ntmps ≤ Z.nt → ∀ p ∈ loops 0 (bodyOf Try.f64), ∀ C, (tabL []) p.1 = some C → LoopOK κ Try.prog Z p.2 C := fun Z h n => fun p hp => (by cases (show p ∈ ([] : List (Nat × Code)) from hp))
theorem e64 : ∀ x, M64 x = fnE Try.prog κ (G64) (tabL []) Try.f64 i64 o64 x := fun x => by kernel_rfl
theorem s64 : Sound κ Try.prog C64 64 := fn_sound (S := (tabL [])) (F := Try.f64) (code := bodyOf Try.f64) (by kernel_rfl) g64 Try.func64 (by kernel_rfl) (by kernel_rfl) (by kernel_rfl) lall64 (by kernel_rfl) (by kernel_rfl) fun x y h => (e64 x).symm.trans h
end Go.Proofs.Ytgdnleanagclaaa.E
namespace Go.Proofs.Ytgdnleanagclaaa.E
open Go
set_option linter.unusedVariables false
set_option maxRecDepth 100000
abbrev A57 : Type := ((Int × Int) × Unit)
abbrev B57 : Type := (Int × Int × Unit)
def i57 : Fr τ A57 := (.val 0 (.pair (.int .i64) (.int .u64)) .nil)
def o57 : Fr τ B57 := (.val 1000 (.int .u64) (.val 1001 (.int .u64) .nil))
def G57 (c61 : A61 → Option B61) (c64 : A64 → Option B64) (c63 : A63 → Option B63) : Nat → Option (Ctr τ) := tabG [(61, (⟨i61, o61, c61⟩ : Ctr τ)), (64, (⟨i64, o64, c64⟩ : Ctr τ)), (63, (⟨i63, o63, c63⟩ : Ctr τ))]
abbrev LA57_0 : Type := (List Int × Int × Int × Int × Unit)
abbrev LB57_0 : Type := (Int × Int × Unit)
def li57_0 : Fr τ LA57_0 := (.aptr 4 12 .u64 (.val 5 (.int .u64) (.val 6 (.int .u64) (.val 7 (.int .i64) .nil))))
def lo57_0 : Ot τ LB57_0 := .one (.exit 0) (.val 5 (.int .u64) (.val 6 (.int .u64) .nil))
def Q57_0 (c61 : A61 → Option B61) (c64 : A64 → Option B64) (c63 : A63 → Option B63) : LA57_0 → Option (LA57_0 ⊕ LB57_0) := fun ⟨l', ⟨hi', ⟨lo', ⟨i', ()⟩⟩⟩⟩ => (bif decide (i' ≥ 0) then ((bif decide (0 ≤ i') && decide (i' < 12) then some () else none).bind fun () => ((l'[Int.toNat i']?).bind fun y2 => (let v0 : Int := i' + 4; let v1 : Int := IntKind.wrap IntKind.i64 v0; (bif decide (0 ≤ v1) && decide (v1 < 12) then some () else none).bind fun () => ((l'[Int.toNat v1]?).bind fun y4 => (let v2 : Int := hi' * 65536; let v3 : Int := IntKind.wrap IntKind.u64 v2; let v4 : Int := v3 + y4; let v5 : Int := IntKind.wrap IntKind.u64 v4; let v6 : Int := lo' * 65536; let v7 : Int := IntKind.wrap IntKind.u64 v6; let v8 : Int := v7 + y2; let v9 : Int := IntKind.wrap IntKind.u64 v8; let v10 : Int := i' - 1; let v11 : Int := IntKind.wrap IntKind.i64 v10; some (.inl (l', (v5, (v9, (v11, ())))))))))) else (some (.inr (hi', (lo', ())))))
def R57_0 : LA57_0 → Option (LA57_0 ⊕ LB57_0) := Q57_0 N61 N64 N63
def L57_0 : Lc τ := ⟨li57_0, itrs R57_0, lo57_0⟩
def M57 (c61 : A61 → Option B61) (c64 : A64 → Option B64) (c63 : A63 → Option B63) (l57_0 : LA57_0 → Option LB57_0) : A57 → Option B57 := fun ⟨⟨w'_0, w'_1⟩, ()⟩ => ((c61 ((w'_0, w'_1), ())).bind fun ⟨y0, ()⟩ => ((c64 (y0, ())).bind fun ⟨y1, ()⟩ => (bif y1 then ((c63 (y0, ())).bind fun ⟨y3, ()⟩ => ((l57_0 (y3, (0, (0, (3, ()))))).bind fun ⟨y4_0, ⟨y4_1, ()⟩⟩ => (some (y4_0, (y4_1, ()))))) else ((l57_0 (y0, (0, (0, (3, ()))))).bind fun ⟨y3_0, ⟨y3_1, ()⟩⟩ => (some (y3_0, (y3_1, ())))))))
def N57 : A57 → Option B57 := M57 N61 N64 N63 (itrs R57_0)
def C57 : Ctr τ := ⟨i57, o57, N57⟩
theorem g57 : GOK κ Try.prog (G57 N61 N64 N63) := (gok_cons s61 (gok_cons s64 (gok_cons s63 gok_nil)))
theorem le57_0 : ∀ (c61 : A61 → Option B61) (c64 : A64 → Option B64) (c63 : A63 → Option B63) x, Q57_0 c61 c64 c63 x = run Try.prog κ (G57 c61 c64 c63) (tabL []) 0 (loopAt Try.f57 0) (li57_0.build x) (rnd li57_0 lo57_0) := fun c61 c64 c63 x => by kernel_rfl
theorem linner57_0 : ∀ Z : Zn, Z.rl = [] → 33 ≤ Z.nt → ∀ p ∈ loops 0 (loopAt Try.f57 0), ∀ C, (tabL []) p.1 = some C → LoopOK κ Try.prog Z p.2 C := fun Z h n => fun p hp => (by cases (show p ∈ ([] : List (Nat × Code)) from hp))
theorem lk57_0 : ∀ Z : Zn, Z.rl = [] → 33 ≤ Z.nt → LoopOK κ Try.prog Z (loopAt Try.f57 0) L57_0 := fun Z h n => loop_ok (S := (tabL [])) R57_0 (by kernel_rfl) g57 (by rw [h]; exact dsts_mono n _ (by kernel_rfl)) (linner57_0 Z h n) (by kernel_rfl) (by kernel_rfl) (le57_0 N61 N64 N63) itrs_rounds
theorem lall57 : ∀ Z : Zn, Z.rl = C57.o.keeps → Try.f57.ntmps ≤ Z.nt → ∀ p ∈ loops 0 (bodyOf Try.f57), ∀ C, (tabL [(0, L57_0)]) p.1 = some C → LoopOK κ Try.prog Z p.2 C := fun Z h n => all_loops [(0, loopAt Try.f57 0)] (by kernel_rfl) (all_cons (fun C hC => (Option.some.inj hC : L57_0 = C) ▸ lk57_0 Z h n) (fun _ h => by cases h))
theorem e57 : ∀ (c61 : A61 → Option B61) (c64 : A64 → Option B64) (c63 : A63 → Option B63) (l57_0 : LA57_0 → Option LB57_0) x, M57 c61 c64 c63 l57_0 x = fnE Try.prog κ (G57 c61 c64 c63) (tabL [(0, (⟨li57_0, l57_0, lo57_0⟩ : Lc τ))]) Try.f57 i57 o57 x := fun c61 c64 c63 l57_0 x => by kernel_rfl
theorem s57 : Sound κ Try.prog C57 57 := fn_sound (S := (tabL [(0, L57_0)])) (F := Try.f57) (code := bodyOf Try.f57) (by kernel_rfl) g57 Try.func57 (by kernel_rfl) (by kernel_rfl) (by kernel_rfl) lall57 (by kernel_rfl) (by kernel_rfl) fun x y h => (e57 N61 N64 N63 (itrs R57_0) x).symm.trans h
end Go.Proofs.Ytgdnleanagclaaa.E
namespace Go.Proofs.Ytgdnleanagclaaa.E
open Go
set_option linter.unusedVariables false
set_option maxRecDepth 100000
abbrev A56 : Type := (Int × Int × Unit)
abbrev B56 : Type := (List Int × Unit)
def i56 : Fr τ A56 := (.val 0 (.int .u64) (.val 1 (.int .u64) .nil))
def o56 : Fr τ B56 := (.arr 1000 8 .u64 .nil)
def G56 : Nat → Option (Ctr τ) := tabG []
abbrev LA56_0 : Type := (Int × Int × List Int × List Int × Int × Unit)
abbrev LB56_0 : Type := (List Int × List Int × Unit)
def li56_0 : Fr τ LA56_0 := (.val 0 (.int .u64) (.val 1 (.int .u64) (.aptr 4 8 .u64 (.aptr 5 8 .u64 (.val 6 (.int .i64) .nil)))))
def lo56_0 : Ot τ LB56_0 := .one (.exit 0) (.aptr 4 8 .u64 (.aptr 5 8 .u64 .nil))
def Q56_0 : LA56_0 → Option (LA56_0 ⊕ LB56_0) := fun ⟨hi', ⟨lo', ⟨t4', ⟨d', ⟨i', ()⟩⟩⟩⟩⟩ => (bif decide (i' < 4) then (let v0 : Int := 16 * i'; let v1 : Int := IntKind.wrap IntKind.i64 v0; let v2 : Int := IntKind.wrap IntKind.u64 v1; (bif decide (0 ≤ v2) then some () else none).bind fun () => ((bif decide (0 ≤ i') && decide (i' < 8) then some () else none).bind fun () => ((bif Nat.blt (Int.toNat i') 8 then some () else none).bind fun () => ((bif decide (0 ≤ v2) then some () else none).bind fun () => (let v3 : Int := i' + 4; let v4 : Int := IntKind.wrap IntKind.i64 v3; (bif decide (0 ≤ v4) && decide (v4 < 8) then some () else none).bind fun () => ((bif Nat.blt (Int.toNat v4) 8 then some () else none).bind fun () => (let v5 : Int := Int.fdiv lo' (2 ^ min (Int.toNat v2) 64); let v6 : Int := Int.tmod v5 65536; let v7 : Int := Int.fdiv hi' (2 ^ min (Int.toNat v2) 64); let v8 : Int := Int.tmod v7 65536; let v9 : Int := i' + 1; let v10 : Int := IntKind.wrap IntKind.i64 v9; some (.inl (hi', (lo', (t4', (List.set (List.set d' (Int.toNat i') v6) (Int.toNat v4) v8, (v10, ()))))))))))))) else (some (.inr (t4', (d', ())))))
def R56_0 : LA56_0 → Option (LA56_0 ⊕ LB56_0) := Q56_0
def L56_0 : Lc τ := ⟨li56_0, itrs R56_0, lo56_0⟩
def M56 (l56_0 : LA56_0 → Option LB56_0) : A56 → Option B56 := fun ⟨hi', ⟨lo', ()⟩⟩ => ((l56_0 (hi', (lo', (List.replicate 8 0, (List.replicate 8 0, (0, ())))))).bind fun ⟨y0_0, ⟨y0_1, ()⟩⟩ => (some (y0_1, ())))
def N56 : A56 → Option B56 := M56 (itrs R56_0)
def C56 : Ctr τ := ⟨i56, o56, N56⟩
theorem g56 : GOK κ Try.prog (G56) := gok_nil
theorem le56_0 : ∀ x, Q56_0 x = run Try.prog κ (G56) (tabL []) 0 (loopAt Try.f56 0) (li56_0.build x) (rnd li56_0 lo56_0) := fun x => by kernel_rfl
theorem linner56_0 : ∀ Z : Zn, Z.rl = [] → 29 ≤ Z.nt → ∀ p ∈ loops 0 (loopAt Try.f56 0), ∀ C, (tabL []) p.1 = some C → LoopOK κ Try.prog Z p.2 C := fun Z h n => fun p hp => (by cases (show p ∈ ([] : List (Nat × Code)) from hp))
theorem lk56_0 : ∀ Z : Zn, Z.rl = [] → 29 ≤ Z.nt → LoopOK κ Try.prog Z (loopAt Try.f56 0) L56_0 := fun Z h n => loop_ok (S := (tabL [])) R56_0 (by kernel_rfl) g56 (by rw [h]; exact dsts_mono n _ (by kernel_rfl)) (linner56_0 Z h n) (by kernel_rfl) (by kernel_rfl) (le56_0) itrs_rounds
theorem lall56 : ∀ Z : Zn, Z.rl = C56.o.keeps → Try.f56.ntmps ≤ Z.nt → ∀ p ∈ loops 0 (bodyOf Try.f56), ∀ C, (tabL [(0, L56_0)]) p.1 = some C → LoopOK κ Try.prog Z p.2 C := fun Z h n => all_loops [(0, loopAt Try.f56 0)] (by kernel_rfl) (all_cons (fun C hC => (Option.some.inj hC : L56_0 = C) ▸ lk56_0 Z h n) (fun _ h => by cases h))
theorem e56 : ∀ (l56_0 : LA56_0 → Option LB56_0) x, M56 l56_0 x = fnE Try.prog κ (G56) (tabL [(0, (⟨li56_0, l56_0, lo56_0⟩ : Lc τ))]) Try.f56 i56 o56 x := fun l56_0 x => by kernel_rfl
theorem s56 : Sound κ Try.prog C56 56 := fn_sound (S := (tabL [(0, L56_0)])) (F := Try.f56) (code := bodyOf Try.f56) (by kernel_rfl) g56 Try.func56 (by kernel_rfl) (by kernel_rfl) (by kernel_rfl) lall56 (by kernel_rfl) (by kernel_rfl) fun x y h => (e56 (itrs R56_0) x).symm.trans h
end Go.Proofs.Ytgdnleanagclaaa.E
namespace Go.Proofs.Ytgdnleanagclaaa.E
open Go
set_option linter.unusedVariables false
set_option maxRecDepth 100000
abbrev A58 : Type := (Bool × Int × Int × Unit)
abbrev B58 : Type := ((Int × Int) × Int × Unit)
def i58 : Fr τ A58 := (.val 0 .bool (.val 1 (.int .u64) (.val 2 (.int .u64) .nil)))
def o58 : Fr τ B58 := (.val 1000 (.pair (.int .i64) (.int .u64)) (.val 1001 (.int .i64) .nil))
def G58 (c63 : A63 → Option B63) (c59 : A59 → Option B59) : Nat → Option (Ctr τ) := tabG [(63, (⟨i63, o63, c63⟩ : Ctr τ)), (59, (⟨i59, o59, c59⟩ : Ctr τ))]
abbrev LA58_0 : Type := (Bool × Int × Int × (Int × (Int × Unit)) × List Int × Int × Unit)
abbrev LB58_0 : Type := (Bool × (Int × (Int × Unit)) × List Int × Unit)
def li58_0 : Fr τ LA58_0 := (.val 0 .bool (.val 1 (.int .u64) (.val 2 (.int .u64) (.ptr 6 none 24 (.val (.int .i64) (.val (.int .u64) .nil)) (.aptr 8 12 .u64 (.val 9 (.int .i64) .nil))))))
def lo58_0 : Ot τ LB58_0 := .one (.exit 0) (.val 0 .bool (.ptr 6 none 24 (.val (.int .i64) (.val (.int .u64) .nil)) (.aptr 8 12 .u64 .nil)))
def Q58_0 (c63 : A63 → Option B63) (c59 : A59 → Option B59) : LA58_0 → Option (LA58_0 ⊕ LB58_0) := fun ⟨below', ⟨hi', ⟨lo', ⟨⟨t6'_0, ⟨t6'_1, ()⟩⟩, ⟨l', ⟨i', ()⟩⟩⟩⟩⟩⟩ => (bif decide (i' < 4) then (let v0 : Int := 16 * i'; let v1 : Int := IntKind.wrap IntKind.i64 v0; let v2 : Int := IntKind.wrap IntKind.u64 v1; (bif decide (0 ≤ v2) then some () else none).bind fun () => ((bif decide (0 ≤ i') && decide (i' < 12) then some () else none).bind fun () => ((bif Nat.blt (Int.toNat i') 12 then some () else none).bind fun () => ((bif decide (0 ≤ v2) then some () else none).bind fun () => (let v3 : Int := i' + 4; let v4 : Int := IntKind.wrap IntKind.i64 v3; (bif decide (0 ≤ v4) && decide (v4 < 12) then some () else none).bind fun () => ((bif Nat.blt (Int.toNat v4) 12 then some () else none).bind fun () => (let v5 : Int := Int.fdiv lo' (2 ^ min (Int.toNat v2) 64); let v6 : Int := Int.tmod v5 65536; let v7 : Int := Int.fdiv hi' (2 ^ min (Int.toNat v2) 64); let v8 : Int := Int.tmod v7 65536; let v9 : Int := i' + 1; let v10 : Int := IntKind.wrap IntKind.i64 v9; some (.inl (below', (hi', (lo', ((t6'_0, (t6'_1, ())), (List.set (List.set l' (Int.toNat i') v6) (Int.toNat v4) v8, (v10, ())))))))))))))) else (some (.inr (below', ((t6'_0, (t6'_1, ())), (l', ()))))))
def R58_0 : LA58_0 → Option (LA58_0 ⊕ LB58_0) := Q58_0 N63 N59
def L58_0 : Lc τ := ⟨li58_0, itrs R58_0, lo58_0⟩
def M58 (c63 : A63 → Option B63) (c59 : A59 → Option B59) (l58_0 : LA58_0 → Option LB58_0) : A58 → Option B58 := fun ⟨below', ⟨hi', ⟨lo', ()⟩⟩⟩ => ((l58_0 (below', (hi', (lo', ((0, (0, ())), (List.replicate 12 0, (0, ()))))))).bind fun ⟨y0_0, ⟨⟨y0_1, ⟨y0_2, ()⟩⟩, ⟨y0_3, ()⟩⟩⟩ => (bif y0_0 then ((c63 (y0_3, ())).bind fun ⟨y2, ()⟩ => ((c59 (y2, ())).bind fun ⟨⟨y3_0, y3_1⟩, ⟨y3_2, ()⟩⟩ => (some ((y3_0, y3_1), (y3_2, ()))))) else ((c59 (y0_3, ())).bind fun ⟨⟨y2_0, y2_1⟩, ⟨y2_2, ()⟩⟩ => (some ((y2_0, y2_1), (y2_2, ()))))))
def N58 : A58 → Option B58 := M58 N63 N59 (itrs R58_0)
def C58 : Ctr τ := ⟨i58, o58, N58⟩
theorem g58 : GOK κ Try.prog (G58 N63 N59) := (gok_cons s63 (gok_cons s59 gok_nil))
theorem le58_0 : ∀ (c63 : A63 → Option B63) (c59 : A59 → Option B59) x, Q58_0 c63 c59 x = run Try.prog κ (G58 c63 c59) (tabL []) 0 (loopAt Try.f58 0) (li58_0.build x) (rnd li58_0 lo58_0) := fun c63 c59 x => by kernel_rfl
theorem linner58_0 : ∀ Z : Zn, Z.rl = [] → 38 ≤ Z.nt → ∀ p ∈ loops 0 (loopAt Try.f58 0), ∀ C, (tabL []) p.1 = some C → LoopOK κ Try.prog Z p.2 C := fun Z h n => fun p hp => (by cases (show p ∈ ([] : List (Nat × Code)) from hp))
theorem lk58_0 : ∀ Z : Zn, Z.rl = [] → 38 ≤ Z.nt → LoopOK κ Try.prog Z (loopAt Try.f58 0) L58_0 := fun Z h n => loop_ok (S := (tabL [])) R58_0 (by kernel_rfl) g58 (by rw [h]; exact dsts_mono n _ (by kernel_rfl)) (linner58_0 Z h n) (by kernel_rfl) (by kernel_rfl) (le58_0 N63 N59) itrs_rounds
theorem lall58 : ∀ Z : Zn, Z.rl = C58.o.keeps → Try.f58.ntmps ≤ Z.nt → ∀ p ∈ loops 0 (bodyOf Try.f58), ∀ C, (tabL [(0, L58_0)]) p.1 = some C → LoopOK κ Try.prog Z p.2 C := fun Z h n => all_loops [(0, loopAt Try.f58 0)] (by kernel_rfl) (all_cons (fun C hC => (Option.some.inj hC : L58_0 = C) ▸ lk58_0 Z h n) (fun _ h => by cases h))
theorem e58 : ∀ (c63 : A63 → Option B63) (c59 : A59 → Option B59) (l58_0 : LA58_0 → Option LB58_0) x, M58 c63 c59 l58_0 x = fnE Try.prog κ (G58 c63 c59) (tabL [(0, (⟨li58_0, l58_0, lo58_0⟩ : Lc τ))]) Try.f58 i58 o58 x := fun c63 c59 l58_0 x => by kernel_rfl
theorem s58 : Sound κ Try.prog C58 58 := fn_sound (S := (tabL [(0, L58_0)])) (F := Try.f58) (code := bodyOf Try.f58) (by kernel_rfl) g58 Try.func58 (by kernel_rfl) (by kernel_rfl) (by kernel_rfl) lall58 (by kernel_rfl) (by kernel_rfl) fun x y h => (e58 N63 N59 (itrs R58_0) x).symm.trans h
end Go.Proofs.Ytgdnleanagclaaa.E
namespace Go.Proofs.Ytgdnleanagclaaa.E
open Go
set_option linter.unusedVariables false
set_option maxRecDepth 100000
abbrev A30 : Type := ((Int × Int) × (Int × Int) × Unit)
abbrev B30 : Type := ((Int × Int) × Int × Unit)
def i30 : Fr τ A30 := (.val 0 (.pair (.int .i64) (.int .u64)) (.val 1 (.pair (.int .i64) (.int .u64)) .nil))
def o30 : Fr τ B30 := (.val 1000 (.pair (.int .i64) (.int .u64)) (.val 1001 (.int .i64) .nil))
def G30 (c57 : A57 → Option B57) (c56 : A56 → Option B56) (c58 : A58 → Option B58) : Nat → Option (Ctr τ) := tabG [(57, (⟨i57, o57, c57⟩ : Ctr τ)), (56, (⟨i56, o56, c56⟩ : Ctr τ)), (58, (⟨i58, o58, c58⟩ : Ctr τ))]
abbrev LA30_6 : Type := ((Int × (Int × Unit)) × (Int × (Int × Unit)) × (Int × (Int × Unit)) × List Int × Int × Int × Int × Unit)
abbrev LB30_6 : Type := ((Int × (Int × Unit)) × (Int × (Int × Unit)) × (Int × (Int × Unit)) × Int × Int × Unit)
def li30_6 : Fr τ LA30_6 := (.ptr 2 none 24 (.val (.int .i64) (.val (.int .u64) .nil)) (.ptr 3 none 24 (.val (.int .i64) (.val (.int .u64) .nil)) (.ptr 4 none 24 (.val (.int .i64) (.val (.int .u64) .nil)) (.aptr 8 17 .u64 (.val 13 (.int .u64) (.val 14 (.int .u64) (.val 15 (.int .i64) .nil)))))))
def lo30_6 : Ot τ LB30_6 := .one (.exit 6) (.ptr 2 none 24 (.val (.int .i64) (.val (.int .u64) .nil)) (.ptr 3 none 24 (.val (.int .i64) (.val (.int .u64) .nil)) (.ptr 4 none 24 (.val (.int .i64) (.val (.int .u64) .nil)) (.val 13 (.int .u64) (.val 14 (.int .u64) .nil)))))
def Q30_6 (c57 : A57 → Option B57) (c56 : A56 → Option B56) (c58 : A58 → Option B58) : LA30_6 → Option (LA30_6 ⊕ LB30_6) := fun ⟨⟨a'_0, ⟨a'_1, ()⟩⟩, ⟨⟨b'_0, ⟨b'_1, ()⟩⟩, ⟨⟨t4'_0, ⟨t4'_1, ()⟩⟩, ⟨p', ⟨hi', ⟨lo', ⟨i', ()⟩⟩⟩⟩⟩⟩⟩ => (bif decide (i' ≥ 0) then ((bif decide (0 ≤ i') && decide (i' < 17) then some () else none).bind fun () => ((p'[Int.toNat i']?).bind fun y2 => (let v0 : Int := i' + 4; let v1 : Int := IntKind.wrap IntKind.i64 v0; (bif decide (0 ≤ v1) && decide (v1 < 17) then some () else none).bind fun () => ((p'[Int.toNat v1]?).bind fun y4 => (let v2 : Int := hi' * 65536; let v3 : Int := IntKind.wrap IntKind.u64 v2; let v4 : Int := v3 + y4; let v5 : Int := IntKind.wrap IntKind.u64 v4; let v6 : Int := lo' * 65536; let v7 : Int := IntKind.wrap IntKind.u64 v6; let v8 : Int := v7 + y2; let v9 : Int := IntKind.wrap IntKind.u64 v8; let v10 : Int := i' - 1; let v11 : Int := IntKind.wrap IntKind.i64 v10; some (.inl ((a'_0, (a'_1, ())), ((b'_0, (b'_1, ())), ((t4'_0, (t4'_1, ())), (p', (v5, (v9, (v11, ()))))))))))))) else (some (.inr ((a'_0, (a'_1, ())), ((b'_0, (b'_1, ())), ((t4'_0, (t4'_1, ())), (hi', (lo', ()))))))))
def R30_6 : LA30_6 → Option (LA30_6 ⊕ LB30_6) := Q30_6 N57 N56 N58
def L30_6 : Lc τ := ⟨li30_6, itrs R30_6, lo30_6⟩
abbrev LA30_4 : Type := ((Int × (Int × Unit)) × (Int × (Int × Unit)) × (Int × (Int × Unit)) × List Int × Int × Unit)
abbrev LB30_4 : Type := ((Int × (Int × Unit)) × (Int × (Int × Unit)) × (Int × (Int × Unit)) × List Int × Unit) ⊕ ((Int × (Int × Unit)) × Int × Unit)
def li30_4 : Fr τ LA30_4 := (.ptr 2 none 24 (.val (.int .i64) (.val (.int .u64) .nil)) (.ptr 3 none 24 (.val (.int .i64) (.val (.int .u64) .nil)) (.ptr 4 none 24 (.val (.int .i64) (.val (.int .u64) .nil)) (.aptr 8 17 .u64 (.val 12 (.int .i64) .nil)))))
def lo30_4 : Ot τ LB30_4 := .alt (.exit 4) (.ptr 2 none 24 (.val (.int .i64) (.val (.int .u64) .nil)) (.ptr 3 none 24 (.val (.int .i64) (.val (.int .u64) .nil)) (.ptr 4 none 24 (.val (.int .i64) (.val (.int .u64) .nil)) (.aptr 8 17 .u64 .nil)))) (.one .ret (.ptr 4 none 24 (.val (.int .i64) (.val (.int .u64) .nil)) (.val 5 (.int .i64) .nil)))
def Q30_4 (c57 : A57 → Option B57) (c56 : A56 → Option B56) (c58 : A58 → Option B58) : LA30_4 → Option (LA30_4 ⊕ LB30_4) := fun ⟨⟨a'_0, ⟨a'_1, ()⟩⟩, ⟨⟨b'_0, ⟨b'_1, ()⟩⟩, ⟨⟨t4'_0, ⟨t4'_1, ()⟩⟩, ⟨p', ⟨i', ()⟩⟩⟩⟩⟩ => (bif decide (i' < 17) then ((bif decide (0 ≤ i') && decide (i' < 17) then some () else none).bind fun () => ((p'[Int.toNat i']?).bind fun y2 => (bif y2 != 0 then (some (.inr (.inr ((0, (0, ())), (10, ()))))) else (let v0 : Int := i' + 1; let v1 : Int := IntKind.wrap IntKind.i64 v0; some (.inl ((a'_0, (a'_1, ())), ((b'_0, (b'_1, ())), ((t4'_0, (t4'_1, ())), (p', (v1, ())))))))))) else (some (.inr (.inl ((a'_0, (a'_1, ())), ((b'_0, (b'_1, ())), ((t4'_0, (t4'_1, ())), (p', ()))))))))
def R30_4 : LA30_4 → Option (LA30_4 ⊕ LB30_4) := Q30_4 N57 N56 N58
def L30_4 : Lc τ := ⟨li30_4, itrs R30_4, lo30_4⟩
abbrev LA30_2 : Type := ((Int × (Int × Unit)) × (Int × (Int × Unit)) × (Int × (Int × Unit)) × List Int × List Int × List Int × Int × Int × Int × Unit)
abbrev LB30_2 : Type := ((Int × (Int × Unit)) × (Int × (Int × Unit)) × (Int × (Int × Unit)) × List Int × List Int × List Int × Int × Int × Unit)
def li30_2 : Fr τ LA30_2 := (.ptr 2 none 24 (.val (.int .i64) (.val (.int .u64) .nil)) (.ptr 3 none 24 (.val (.int .i64) (.val (.int .u64) .nil)) (.ptr 4 none 24 (.val (.int .i64) (.val (.int .u64) .nil)) (.aptr 6 8 .u64 (.aptr 7 8 .u64 (.aptr 8 17 .u64 (.val 9 (.int .i64) (.val 10 (.int .u64) (.val 11 (.int .i64) .nil)))))))))
def lo30_2 : Ot τ LB30_2 := .one (.exit 2) (.ptr 2 none 24 (.val (.int .i64) (.val (.int .u64) .nil)) (.ptr 3 none 24 (.val (.int .i64) (.val (.int .u64) .nil)) (.ptr 4 none 24 (.val (.int .i64) (.val (.int .u64) .nil)) (.aptr 6 8 .u64 (.aptr 7 8 .u64 (.aptr 8 17 .u64 (.val 9 (.int .i64) (.val 10 (.int .u64) .nil))))))))
def Q30_2 (c57 : A57 → Option B57) (c56 : A56 → Option B56) (c58 : A58 → Option B58) : LA30_2 → Option (LA30_2 ⊕ LB30_2) := fun ⟨⟨a'_0, ⟨a'_1, ()⟩⟩, ⟨⟨b'_0, ⟨b'_1, ()⟩⟩, ⟨⟨t4'_0, ⟨t4'_1, ()⟩⟩, ⟨x', ⟨y', ⟨p', ⟨i', ⟨c', ⟨j', ()⟩⟩⟩⟩⟩⟩⟩⟩⟩ => (bif decide (j' < 8) then (let v0 : Int := i' + j'; let v1 : Int := IntKind.wrap IntKind.i64 v0; (bif decide (0 ≤ v1) && decide (v1 < 17) then some () else none).bind fun () => ((p'[Int.toNat v1]?).bind fun y2 => ((bif decide (0 ≤ i') && decide (i' < 8) then some () else none).bind fun () => ((x'[Int.toNat i']?).bind fun y4 => ((bif decide (0 ≤ j') && decide (j' < 8) then some () else none).bind fun () => ((y'[Int.toNat j']?).bind fun y6 => ((bif decide (0 ≤ v1) && decide (v1 < 17) then some () else none).bind fun () => ((bif Nat.blt (Int.toNat v1) 17 then some () else none).bind fun () => (let v2 : Int := c' + y2; let v3 : Int := IntKind.wrap IntKind.u64 v2; let v4 : Int := y4 * y6; let v5 : Int := IntKind.wrap IntKind.u64 v4; let v6 : Int := v3 + v5; let v7 : Int := IntKind.wrap IntKind.u64 v6; let v8 : Int := Int.tmod v7 65536; let v9 : Int := Int.tdiv v7 65536; let v10 : Int := IntKind.wrap IntKind.u64 v9; let v11 : Int := j' + 1; let v12 : Int := IntKind.wrap IntKind.i64 v11; some (.inl ((a'_0, (a'_1, ())), ((b'_0, (b'_1, ())), ((t4'_0, (t4'_1, ())), (x', (y', (List.set p' (Int.toNat v1) v8, (i', (v10, (v12, ()))))))))))))))))))) else (some (.inr ((a'_0, (a'_1, ())), ((b'_0, (b'_1, ())), ((t4'_0, (t4'_1, ())), (x', (y', (p', (i', (c', ())))))))))))
def R30_2 : LA30_2 → Option (LA30_2 ⊕ LB30_2) := Q30_2 N57 N56 N58
def L30_2 : Lc τ := ⟨li30_2, itrs R30_2, lo30_2⟩
abbrev LA30_0 : Type := ((Int × (Int × Unit)) × (Int × (Int × Unit)) × (Int × (Int × Unit)) × List Int × List Int × List Int × Int × Unit)
abbrev LB30_0 : Type := ((Int × (Int × Unit)) × (Int × (Int × Unit)) × (Int × (Int × Unit)) × List Int × Unit)
def li30_0 : Fr τ LA30_0 := (.ptr 2 none 24 (.val (.int .i64) (.val (.int .u64) .nil)) (.ptr 3 none 24 (.val (.int .i64) (.val (.int .u64) .nil)) (.ptr 4 none 24 (.val (.int .i64) (.val (.int .u64) .nil)) (.aptr 6 8 .u64 (.aptr 7 8 .u64 (.aptr 8 17 .u64 (.val 9 (.int .i64) .nil)))))))
def lo30_0 : Ot τ LB30_0 := .one (.exit 0) (.ptr 2 none 24 (.val (.int .i64) (.val (.int .u64) .nil)) (.ptr 3 none 24 (.val (.int .i64) (.val (.int .u64) .nil)) (.ptr 4 none 24 (.val (.int .i64) (.val (.int .u64) .nil)) (.aptr 8 17 .u64 .nil))))
def Q30_0 (c57 : A57 → Option B57) (c56 : A56 → Option B56) (c58 : A58 → Option B58) (l30_2 : LA30_2 → Option LB30_2) : LA30_0 → Option (LA30_0 ⊕ LB30_0) := fun ⟨⟨a'_0, ⟨a'_1, ()⟩⟩, ⟨⟨b'_0, ⟨b'_1, ()⟩⟩, ⟨⟨t4'_0, ⟨t4'_1, ()⟩⟩, ⟨x', ⟨y', ⟨p', ⟨i', ()⟩⟩⟩⟩⟩⟩⟩ => (bif decide (i' < 8) then ((l30_2 ((a'_0, (a'_1, ())), ((b'_0, (b'_1, ())), ((t4'_0, (t4'_1, ())), (x', (y', (p', (i', (0, (0, ())))))))))).bind fun ⟨⟨y1_0, ⟨y1_1, ()⟩⟩, ⟨⟨y1_2, ⟨y1_3, ()⟩⟩, ⟨⟨y1_4, ⟨y1_5, ()⟩⟩, ⟨y1_6, ⟨y1_7, ⟨y1_8, ⟨y1_9, ⟨y1_10, ()⟩⟩⟩⟩⟩⟩⟩⟩ => (let v0 : Int := y1_9 + 8; let v1 : Int := IntKind.wrap IntKind.i64 v0; (bif decide (0 ≤ v1) && decide (v1 < 17) then some () else none).bind fun () => ((bif Nat.blt (Int.toNat v1) 17 then some () else none).bind fun () => (let v2 : Int := y1_9 + 1; let v3 : Int := IntKind.wrap IntKind.i64 v2; some (.inl ((y1_0, (y1_1, ())), ((y1_2, (y1_3, ())), ((y1_4, (y1_5, ())), (y1_6, (y1_7, (List.set y1_8 (Int.toNat v1) y1_10, (v3, ())))))))))))) else (some (.inr ((a'_0, (a'_1, ())), ((b'_0, (b'_1, ())), ((t4'_0, (t4'_1, ())), (p', ())))))))
def R30_0 : LA30_0 → Option (LA30_0 ⊕ LB30_0) := Q30_0 N57 N56 N58 (itrs R30_2)
def L30_0 : Lc τ := ⟨li30_0, itrs R30_0, lo30_0⟩
def M30 (c57 : A57 → Option B57) (c56 : A56 → Option B56) (c58 : A58 → Option B58) (l30_0 : LA30_0 → Option LB30_0) (l30_4 : LA30_4 → Option LB30_4) (l30_6 : LA30_6 → Option LB30_6) : A30 → Option B30 := fun ⟨⟨a'_0, a'_1⟩, ⟨⟨b'_0, b'_1⟩, ()⟩⟩ => ((c57 ((a'_0, a'_1), ())).bind fun ⟨y0_0, ⟨y0_1, ()⟩⟩ => ((c56 (y0_0, (y0_1, ()))).bind fun ⟨y1, ()⟩ => ((c57 ((b'_0, b'_1), ())).bind fun ⟨y2_0, ⟨y2_1, ()⟩⟩ => ((c56 (y2_0, (y2_1, ()))).bind fun ⟨y3, ()⟩ => ((l30_0 ((a'_0, (a'_1, ())), ((b'_0, (b'_1, ())), ((0, (0, ())), (y1, (y3, (List.replicate 17 0, (0, ())))))))).bind fun ⟨⟨y4_0, ⟨y4_1, ()⟩⟩, ⟨⟨y4_2, ⟨y4_3, ()⟩⟩, ⟨⟨y4_4, ⟨y4_5, ()⟩⟩, ⟨y4_6, ()⟩⟩⟩⟩ => ((l30_4 ((y4_0, (y4_1, ())), ((y4_2, (y4_3, ())), ((y4_4, (y4_5, ())), (y4_6, (8, ())))))).bind fun y5 => (match y5 with | .inl ⟨⟨y6_0, ⟨y6_1, ()⟩⟩, ⟨⟨y6_2, ⟨y6_3, ()⟩⟩, ⟨⟨y6_4, ⟨y6_5, ()⟩⟩, ⟨y6_6, ()⟩⟩⟩⟩ => ((l30_6 ((y6_0, (y6_1, ())), ((y6_2, (y6_3, ())), ((y6_4, (y6_5, ())), (y6_6, (0, (0, (3, ())))))))).bind fun ⟨⟨y7_0, ⟨y7_1, ()⟩⟩, ⟨⟨y7_2, ⟨y7_3, ()⟩⟩, ⟨⟨y7_4, ⟨y7_5, ()⟩⟩, ⟨y7_6, ⟨y7_7, ()⟩⟩⟩⟩⟩ => ((c58 (!decide (y7_0 < 0) == decide (y7_2 < 0), (y7_6, (y7_7, ())))).bind fun ⟨⟨y8_0, y8_1⟩, ⟨y8_2, ()⟩⟩ => (some ((y8_0, y8_1), (y8_2, ()))))) | .inr ⟨⟨y6_0, ⟨y6_1, ()⟩⟩, ⟨y6_2, ()⟩⟩ => (some ((y6_0, y6_1), (y6_2, ()))))))))))
def N30 : A30 → Option B30 := M30 N57 N56 N58 (itrs R30_0) (itrs R30_4) (itrs R30_6)
def C30 : Ctr τ := ⟨i30, o30, N30⟩
theorem g30 : GOK κ Try.prog (G30 N57 N56 N58) := (gok_cons s57 (gok_cons s56 (gok_cons s58 gok_nil)))
theorem le30_6 : ∀ (c57 : A57 → Option B57) (c56 : A56 → Option B56) (c58 : A58 → Option B58) x, Q30_6 c57 c56 c58 x = run Try.prog κ (G30 c57 c56 c58) (tabL []) 6 (loopAt Try.f30 3) (li30_6.build x) (rnd li30_6 lo30_6) := fun c57 c56 c58 x => by kernel_rfl
theorem le30_4 : ∀ (c57 : A57 → Option B57) (c56 : A56 → Option B56) (c58 : A58 → Option B58) x, Q30_4 c57 c56 c58 x = run Try.prog κ (G30 c57 c56 c58) (tabL []) 4 (loopAt Try.f30 2) (li30_4.build x) (rnd li30_4 lo30_4) := fun c57 c56 c58 x => by kernel_rfl
theorem le30_2 : ∀ (c57 : A57 → Option B57) (c56 : A56 → Option B56) (c58 : A58 → Option B58) x, Q30_2 c57 c56 c58 x = run Try.prog κ (G30 c57 c56 c58) (tabL []) 2 (loopAt Try.f30 1) (li30_2.build x) (rnd li30_2 lo30_2) := fun c57 c56 c58 x => by kernel_rfl
theorem le30_0 : ∀ (c57 : A57 → Option B57) (c56 : A56 → Option B56) (c58 : A58 → Option B58) (l30_2 : LA30_2 → Option LB30_2) x, Q30_0 c57 c56 c58 l30_2 x = run Try.prog κ (G30 c57 c56 c58) (tabL [(2, (⟨li30_2, l30_2, lo30_2⟩ : Lc τ))]) 0 (loopAt Try.f30 0) (li30_0.build x) (rnd li30_0 lo30_0) := fun c57 c56 c58 l30_2 x => by kernel_rfl
theorem linner30_6 : ∀ Z : Zn, Z.rl = [] → 99 ≤ Z.nt → ∀ p ∈ loops 6 (loopAt Try.f30 3), ∀ C, (tabL []) p.1 = some C → LoopOK κ Try.prog Z p.2 C := fun Z h n => fun p hp => (by cases (show p ∈ ([] : List (Nat × Code)) from hp))
theorem lk30_6 : ∀ Z : Zn, Z.rl = [] → 99 ≤ Z.nt → LoopOK κ Try.prog Z (loopAt Try.f30 3) L30_6 := fun Z h n => loop_ok (S := (tabL [])) R30_6 (by kernel_rfl) g30 (by rw [h]; exact dsts_mono n _ (by kernel_rfl)) (linner30_6 Z h n) (by kernel_rfl) (by kernel_rfl) (le30_6 N57 N56 N58) itrs_rounds
theorem linner30_4 : ∀ Z : Zn, Z.rl = [] → 99 ≤ Z.nt → ∀ p ∈ loops 4 (loopAt Try.f30 2), ∀ C, (tabL []) p.1 = some C → LoopOK κ Try.prog Z p.2 C := fun Z h n => fun p hp => (by cases (show p ∈ ([] : List (Nat × Code)) from hp))
theorem lk30_4 : ∀ Z : Zn, Z.rl = [] → 99 ≤ Z.nt → LoopOK κ Try.prog Z (loopAt Try.f30 2) L30_4 := fun Z h n => loop_ok (S := (tabL [])) R30_4 (by kernel_rfl) g30 (by rw [h]; exact dsts_mono n _ (by kernel_rfl)) (linner30_4 Z h n) (by kernel_rfl) (by kernel_rfl) (le30_4 N57 N56 N58) itrs_rounds
theorem linner30_2 : ∀ Z : Zn, Z.rl = [] → 99 ≤ Z.nt → ∀ p ∈ loops 2 (loopAt Try.f30 1), ∀ C, (tabL []) p.1 = some C → LoopOK κ Try.prog Z p.2 C := fun Z h n => fun p hp => (by cases (show p ∈ ([] : List (Nat × Code)) from hp))
theorem lk30_2 : ∀ Z : Zn, Z.rl = [] → 99 ≤ Z.nt → LoopOK κ Try.prog Z (loopAt Try.f30 1) L30_2 := fun Z h n => loop_ok (S := (tabL [])) R30_2 (by kernel_rfl) g30 (by rw [h]; exact dsts_mono n _ (by kernel_rfl)) (linner30_2 Z h n) (by kernel_rfl) (by kernel_rfl) (le30_2 N57 N56 N58) itrs_rounds
theorem linner30_0 : ∀ Z : Zn, Z.rl = [] → 99 ≤ Z.nt → ∀ p ∈ loops 0 (loopAt Try.f30 0), ∀ C, (tabL [(2, L30_2)]) p.1 = some C → LoopOK κ Try.prog Z p.2 C := fun Z h n => all_loops [(2, loopAt Try.f30 1)] (by kernel_rfl) (all_cons (fun C hC => (Option.some.inj hC : L30_2 = C) ▸ lk30_2 Z h n) (fun _ h => by cases h))
theorem lk30_0 : ∀ Z : Zn, Z.rl = [] → 99 ≤ Z.nt → LoopOK κ Try.prog Z (loopAt Try.f30 0) L30_0 := fun Z h n => loop_ok (S := (tabL [(2, L30_2)])) R30_0 (by kernel_rfl) g30 (by rw [h]; exact dsts_mono n _ (by kernel_rfl)) (linner30_0 Z h n) (by kernel_rfl) (by kernel_rfl) (le30_0 N57 N56 N58 (itrs R30_2)) itrs_rounds
theorem lall30 : ∀ Z : Zn, Z.rl = C30.o.keeps → Try.f30.ntmps ≤ Z.nt → ∀ p ∈ loops 0 (bodyOf Try.f30), ∀ C, (tabL [(0, L30_0), (4, L30_4), (6, L30_6)]) p.1 = some C → LoopOK κ Try.prog Z p.2 C := fun Z h n => all_loops [(0, loopAt Try.f30 0), (2, loopAt Try.f30 1), (4, loopAt Try.f30 2), (6, loopAt Try.f30 3)] (by kernel_rfl) (all_cons (fun C hC => (Option.some.inj hC : L30_0 = C) ▸ lk30_0 Z h n) (all_cons (fun C hC => by cases hC) (all_cons (fun C hC => (Option.some.inj hC : L30_4 = C) ▸ lk30_4 Z h n) (all_cons (fun C hC => (Option.some.inj hC : L30_6 = C) ▸ lk30_6 Z h n) (fun _ h => by cases h)))))
theorem e30 : ∀ (c57 : A57 → Option B57) (c56 : A56 → Option B56) (c58 : A58 → Option B58) (l30_0 : LA30_0 → Option LB30_0) (l30_4 : LA30_4 → Option LB30_4) (l30_6 : LA30_6 → Option LB30_6) x, M30 c57 c56 c58 l30_0 l30_4 l30_6 x = fnE Try.prog κ (G30 c57 c56 c58) (tabL [(0, (⟨li30_0, l30_0, lo30_0⟩ : Lc τ)), (4, (⟨li30_4, l30_4, lo30_4⟩ : Lc τ)), (6, (⟨li30_6, l30_6, lo30_6⟩ : Lc τ))]) Try.f30 i30 o30 x := fun c57 c56 c58 l30_0 l30_4 l30_6 x => by kernel_rfl
theorem s30 : Sound κ Try.prog C30 30 := fn_sound (S := (tabL [(0, L30_0), (4, L30_4), (6, L30_6)])) (F := Try.f30) (code := bodyOf Try.f30) (by kernel_rfl) g30 Try.func30 (by kernel_rfl) (by kernel_rfl) (by kernel_rfl) lall30 (by kernel_rfl) (by kernel_rfl) fun x y h => (e30 N57 N56 N58 (itrs R30_0) (itrs R30_4) (itrs R30_6) x).symm.trans h
end Go.Proofs.Ytgdnleanagclaaa.E
namespace Go.Proofs.Ytgdnleanagclaaa.E
open Go
set_option linter.unusedVariables false
set_option maxRecDepth 100000
abbrev A32 : Type := (Int × Int × Unit)
abbrev B32 : Type := (Int × Unit)
def i32 : Fr τ A32 := (.val 0 (.int .i64) (.val 1 (.int .i64) .nil))
def o32 : Fr τ B32 := (.val 1000 (.int .i64) .nil)
def G32 : Nat → Option (Ctr τ) := tabG []
def M32 : A32 → Option B32 := fun ⟨q', ⟨size', ()⟩⟩ => ((bif !size' == 0 then some () else none).bind fun () => ((bif !size' == 0 then some () else none).bind fun () => (let v0 : Int := Int.tmod q' size'; bif v0 != 0 then (let v1 : Int := Int.tdiv q' size'; let v2 : Int := IntKind.wrap IntKind.i64 v1; let v3 : Int := v2 + 1; let v4 : Int := IntKind.wrap IntKind.i64 v3; some (v4, ())) else (let v1 : Int := Int.tdiv q' size'; let v2 : Int := IntKind.wrap IntKind.i64 v1; some (v2, ())))))
def N32 : A32 → Option B32 := M32
def C32 : Ctr τ := ⟨i32, o32, N32⟩
theorem g32 : GOK κ Try.prog (G32) := gok_nil
theorem lall32 : ∀ Z : Zn, Z.rl = C32.o.keeps → Try.f32.ntmps ≤ Z.nt → ∀ p ∈ loops 0 (bodyOf Try.f32), ∀ C, (tabL []) p.1 = some C → LoopOK κ Try.prog Z p.2 C := fun Z h n => fun p hp => (by cases (show p ∈ ([] : List (Nat × Code)) from hp))
theorem e32 : ∀ x, M32 x = fnE Try.prog κ (G32) (tabL []) Try.f32 i32 o32 x := fun x => by kernel_rfl
theorem s32 : Sound κ Try.prog C32 32 := fn_sound (S := (tabL [])) (F := Try.f32) (code := bodyOf Try.f32) (by kernel_rfl) g32 Try.func32 (by kernel_rfl) (by kernel_rfl) (by kernel_rfl) lall32 (by kernel_rfl) (by kernel_rfl) fun x y h => (e32 x).symm.trans h
end Go.Proofs.Ytgdnleanagclaaa.E
namespace Go.Proofs.Ytgdnleanagclaaa.E
open Go
set_option linter.unusedVariables false
set_option maxRecDepth 100000
abbrev A33 : Type := ((Int × Int) × (Int × Int) × Unit)
abbrev B33 : Type := ((Int × Int) × Int × Unit)
def i33 : Fr τ A33 := (.val 0 (.pair (.int .i64) (.int .u64)) (.val 1 (.pair (.int .i64) (.int .u64)) .nil))
def o33 : Fr τ B33 := (.val 1000 (.pair (.int .i64) (.int .u64)) (.val 1001 (.int .i64) .nil))
def G33 (c61 : A61 → Option B61) (c60 : A60 → Option B60) (c59 : A59 → Option B59) : Nat → Option (Ctr τ) := tabG [(61, (⟨i61, o61, c61⟩ : Ctr τ)), (60, (⟨i60, o60, c60⟩ : Ctr τ)), (59, (⟨i59, o59, c59⟩ : Ctr τ))]
def M33 (c61 : A61 → Option B61) (c60 : A60 → Option B60) (c59 : A59 → Option B59) : A33 → Option B33 := fun ⟨⟨a'_0, a'_1⟩, ⟨⟨b'_0, b'_1⟩, ()⟩⟩ => ((c61 ((a'_0, a'_1), ())).bind fun ⟨y0, ()⟩ => ((c61 ((b'_0, b'_1), ())).bind fun ⟨y1, ()⟩ => ((c60 (y0, (y1, ()))).bind fun ⟨y2, ()⟩ => ((c59 (y2, ())).bind fun ⟨⟨y3_0, y3_1⟩, ⟨y3_2, ()⟩⟩ => (some ((y3_0, y3_1), (y3_2, ())))))))
def N33 : A33 → Option B33 := M33 N61 N60 N59
def C33 : Ctr τ := ⟨i33, o33, N33⟩
theorem g33 : GOK κ Try.prog (G33 N61 N60 N59) := (gok_cons s61 (gok_cons s60 (gok_cons s59 gok_nil)))
theorem lall33 : ∀ Z : Zn, Z.rl = C33.o.keeps → Try.f33.ntmps ≤ Z.nt → ∀ p ∈ loops 0 (bodyOf Try.f33), ∀ C, (tabL []) p.1 = some C → LoopOK κ Try.prog Z p.2 C := fun Z h n => fun p hp => (by cases (show p ∈ ([] : List (Nat × Code)) from hp))
theorem e33 : ∀ (c61 : A61 → Option B61) (c60 : A60 → Option B60) (c59 : A59 → Option B59) x, M33 c61 c60 c59 x = fnE Try.prog κ (G33 c61 c60 c59) (tabL []) Try.f33 i33 o33 x := fun c61 c60 c59 x => by kernel_rfl
theorem s33 : Sound κ Try.prog C33 33 := fn_sound (S := (tabL [])) (F := Try.f33) (code := bodyOf Try.f33) (by kernel_rfl) g33 Try.func33 (by kernel_rfl) (by kernel_rfl) (by kernel_rfl) lall33 (by kernel_rfl) (by kernel_rfl) fun x y h => (e33 N61 N60 N59 x).symm.trans h
end Go.Proofs.Ytgdnleanagclaaa.E
namespace Go.Proofs.Ytgdnleanagclaaa.E
open Go
set_option linter.unusedVariables false
set_option maxRecDepth 100000
abbrev A11 : Type := (((Int × Int) × ((Int × Int) × (Int × Int))) × Int × Int × Unit)
abbrev B11 : Type := ((Int × Int) × Int × Unit)
def i11 : Fr τ A11 := (.val 0 (.pair (.pair (.int .i64) (.int .u64)) (.pair (.pair (.int .i64) (.int .u64)) (.pair (.int .i64) (.int .u64)))) (.val 1 (.int .i64) (.val 2 (.int .i64) .nil)))
def o11 : Fr τ B11 := (.val 1000 (.pair (.int .i64) (.int .u64)) (.val 1001 (.int .i64) .nil))
def G11 (c25 : A25 → Option B25) (c31 : A31 → Option B31) (c30 : A30 → Option B30) (c32 : A32 → Option B32) (c33 : A33 → Option B33) : Nat → Option (Ctr τ) := tabG [(25, (⟨i25, o25, c25⟩ : Ctr τ)), (31, (⟨i31, o31, c31⟩ : Ctr τ)), (30, (⟨i30, o30, c30⟩ : Ctr τ)), (32, (⟨i32, o32, c32⟩ : Ctr τ)), (33, (⟨i33, o33, c33⟩ : Ctr τ))]
def M11 (c25 : A25 → Option B25) (c31 : A31 → Option B31) (c30 : A30 → Option B30) (c32 : A32 → Option B32) (c33 : A33 → Option B33) : A11 → Option B11 := fun ⟨⟨⟨l'_0, l'_1⟩, ⟨⟨l'_2, l'_3⟩, ⟨l'_4, l'_5⟩⟩⟩, ⟨size', ⟨q', ()⟩⟩⟩ => ((c25 (size', (q', ()))).bind fun ⟨y0, ()⟩ => (bif !y0 then (some ((0, 0), (1, ()))) else ((c31 (q', ())).bind fun ⟨⟨y2_0, y2_1⟩, ()⟩ => ((c30 ((l'_2, l'_3), ((y2_0, y2_1), ()))).bind fun ⟨⟨y3_0, y3_1⟩, ⟨y3_2, ()⟩⟩ => ((c32 (q', (size', ()))).bind fun ⟨y4, ()⟩ => ((c31 (y4, ())).bind fun ⟨⟨y5_0, y5_1⟩, ()⟩ => ((c30 ((l'_4, l'_5), ((y5_0, y5_1), ()))).bind fun ⟨⟨y6_0, y6_1⟩, ⟨y6_2, ()⟩⟩ => (bif y3_2 != 0 then (some ((0, 0), (10, ()))) else (bif y6_2 != 0 then (some ((0, 0), (10, ()))) else ((c33 ((l'_0, l'_1), ((y3_0, y3_1), ()))).bind fun ⟨⟨y9_0, y9_1⟩, ⟨y9_2, ()⟩⟩ => (bif y9_2 != 0 then (some ((0, 0), (10, ()))) else ((c33 ((y9_0, y9_1), ((y6_0, y6_1), ()))).bind fun ⟨⟨y11_0, y11_1⟩, ⟨y11_2, ()⟩⟩ => (some ((y11_0, y11_1), (y11_2, ())))))))))))))))
def N11 : A11 → Option B11 := M11 N25 N31 N30 N32 N33
def C11 : Ctr τ := ⟨i11, o11, N11⟩
theorem g11 : GOK κ Try.prog (G11 N25 N31 N30 N32 N33) := (gok_cons s25 (gok_cons s31 (gok_cons s30 (gok_cons s32 (gok_cons s33 gok_nil)))))
theorem lall11 : ∀ Z : Zn, Z.rl = C11.o.keeps → Try.f11.ntmps ≤ Z.nt → ∀ p ∈ loops 0 (bodyOf Try.f11), ∀ C, (tabL []) p.1 = some C → LoopOK κ Try.prog Z p.2 C := fun Z h n => fun p hp => (by cases (show p ∈ ([] : List (Nat × Code)) from hp))
theorem e11 : ∀ (c25 : A25 → Option B25) (c31 : A31 → Option B31) (c30 : A30 → Option B30) (c32 : A32 → Option B32) (c33 : A33 → Option B33) x, M11 c25 c31 c30 c32 c33 x = fnE Try.prog κ (G11 c25 c31 c30 c32 c33) (tabL []) Try.f11 i11 o11 x := fun c25 c31 c30 c32 c33 x => by kernel_rfl
theorem s11 : Sound κ Try.prog C11 11 := fn_sound (S := (tabL [])) (F := Try.f11) (code := bodyOf Try.f11) (by kernel_rfl) g11 Try.func11 (by kernel_rfl) (by kernel_rfl) (by kernel_rfl) lall11 (by kernel_rfl) (by kernel_rfl) fun x y h => (e11 N25 N31 N30 N32 N33 x).symm.trans h
end Go.Proofs.Ytgdnleanagclaaa.E
namespace Go.Proofs.Ytgdnleanagclaaa.E
open Go
set_option linter.unusedVariables false
set_option maxRecDepth 100000
abbrev A9 : Type := (((Int × Int) × ((Int × Int) × (Int × Int))) × Int × Unit)
abbrev B9 : Type := ((Int × Int) × Int × Unit)
def i9 : Fr τ A9 := (.val 0 (.pair (.pair (.int .i64) (.int .u64)) (.pair (.pair (.int .i64) (.int .u64)) (.pair (.int .i64) (.int .u64)))) (.val 1 (.int .i64) .nil))
def o9 : Fr τ B9 := (.val 1000 (.pair (.int .i64) (.int .u64)) (.val 1001 (.int .i64) .nil))
def G9 (c25 : A25 → Option B25) (c26 : A26 → Option B26) (c11 : A11 → Option B11) : Nat → Option (Ctr τ) := tabG [(25, (⟨i25, o25, c25⟩ : Ctr τ)), (26, (⟨i26, o26, c26⟩ : Ctr τ)), (11, (⟨i11, o11, c11⟩ : Ctr τ))]
def M9 (c25 : A25 → Option B25) (c26 : A26 → Option B26) (c11 : A11 → Option B11) : A9 → Option B9 := fun ⟨⟨⟨l'_0, l'_1⟩, ⟨⟨l'_2, l'_3⟩, ⟨l'_4, l'_5⟩⟩⟩, ⟨size', ()⟩⟩ => ((c25 (size', (0, ()))).bind fun ⟨y0, ()⟩ => (bif !y0 then (some ((0, 0), (1, ()))) else ((c26 ((l'_0, l'_1), ())).bind fun ⟨⟨y2_0, y2_1⟩, ⟨y2_2, ()⟩⟩ => ((c26 ((l'_2, l'_3), ())).bind fun ⟨⟨y3_0, y3_1⟩, ⟨y3_2, ()⟩⟩ => ((c26 ((l'_4, l'_5), ())).bind fun ⟨⟨y4_0, y4_1⟩, ⟨y4_2, ()⟩⟩ => (bif y2_2 != 0 then (some ((0, 0), (10, ()))) else (bif y3_2 != 0 then (some ((0, 0), (10, ()))) else (bif y4_2 != 0 then (some ((0, 0), (10, ()))) else ((c11 (((y2_0, y2_1), ((y3_0, y3_1), (y4_0, y4_1))), (size', (1099511627776, ())))).bind fun ⟨⟨y8_0, y8_1⟩, ⟨y8_2, ()⟩⟩ => (some ((y8_0, y8_1), (y8_2, ()))))))))))))
def N9 : A9 → Option B9 := M9 N25 N26 N11
def C9 : Ctr τ := ⟨i9, o9, N9⟩
theorem g9 : GOK κ Try.prog (G9 N25 N26 N11) := (gok_cons s25 (gok_cons s26 (gok_cons s11 gok_nil)))
theorem lall9 : ∀ Z : Zn, Z.rl = C9.o.keeps → Try.f9.ntmps ≤ Z.nt → ∀ p ∈ loops 0 (bodyOf Try.f9), ∀ C, (tabL []) p.1 = some C → LoopOK κ Try.prog Z p.2 C := fun Z h n => fun p hp => (by cases (show p ∈ ([] : List (Nat × Code)) from hp))
theorem e9 : ∀ (c25 : A25 → Option B25) (c26 : A26 → Option B26) (c11 : A11 → Option B11) x, M9 c25 c26 c11 x = fnE Try.prog κ (G9 c25 c26 c11) (tabL []) Try.f9 i9 o9 x := fun c25 c26 c11 x => by kernel_rfl
theorem s9 : Sound κ Try.prog C9 9 := fn_sound (S := (tabL [])) (F := Try.f9) (code := bodyOf Try.f9) (by kernel_rfl) g9 Try.func9 (by kernel_rfl) (by kernel_rfl) (by kernel_rfl) lall9 (by kernel_rfl) (by kernel_rfl) fun x y h => (e9 N25 N26 N11 x).symm.trans h
end Go.Proofs.Ytgdnleanagclaaa.E
namespace Go.Proofs.Ytgdnleanagclaaa.E
open Go
set_option linter.unusedVariables false
set_option maxRecDepth 100000
abbrev A3 : Type := (((Int × Int) × ((Int × Int) × (Int × Int))) × Int × (List T2) × Unit)
abbrev B3 : Type := (Bool × Unit)
def i3 : Fr τ A3 := (.val 0 (.pair (.pair (.int .i64) (.int .u64)) (.pair (.pair (.int .i64) (.int .u64)) (.pair (.int .i64) (.int .u64)))) (.val 1 (.int .i64) (.val 2 (.sl 2) .nil)))
def o3 : Fr τ B3 := (.val 1000 .bool .nil)
def G3 (c7 : A7 → Option B7) (c8 : A8 → Option B8) (c9 : A9 → Option B9) (c10 : A10 → Option B10) (c11 : A11 → Option B11) : Nat → Option (Ctr τ) := tabG [(7, (⟨i7, o7, c7⟩ : Ctr τ)), (8, (⟨i8, o8, c8⟩ : Ctr τ)), (9, (⟨i9, o9, c9⟩ : Ctr τ)), (10, (⟨i10, o10, c10⟩ : Ctr τ)), (11, (⟨i11, o11, c11⟩ : Ctr τ))]
abbrev LA3_0 : Type := (Int × (List T2) × ((Int × Int) × ((Int × Int) × ((Int × Int) × Unit))) × (Int × (Int × Unit)) × (Int × (Int × Unit)) × Int × Unit)
abbrev LB3_0 : Type := (Unit) ⊕ (Bool × Unit)
def li3_0 : Fr τ LA3_0 := (.val 1 (.int .i64) (.val 2 (.sl 2) (.ptr 3 none 26 (.val (.pair (.int .i64) (.int .u64)) (.val (.pair (.int .i64) (.int .u64)) (.val (.pair (.int .i64) (.int .u64)) .nil))) (.ptr 7 none 24 (.val (.int .i64) (.val (.int .u64) .nil)) (.ptr 9 none 24 (.val (.int .i64) (.val (.int .u64) .nil)) (.val 11 (.int .i64) .nil))))))
def lo3_0 : Ot τ LB3_0 := .alt (.exit 0) .nil (.one .ret (.val 6 .bool .nil))
def Q3_0 (c7 : A7 → Option B7) (c8 : A8 → Option B8) (c9 : A9 → Option B9) (c10 : A10 → Option B10) (c11 : A11 → Option B11) : LA3_0 → Option (LA3_0 ⊕ LB3_0) := fun ⟨size', ⟨list', ⟨⟨⟨l'_0, l'_1⟩, ⟨⟨l'_2, l'_3⟩, ⟨⟨l'_4, l'_5⟩, ()⟩⟩⟩, ⟨⟨x'_0, ⟨x'_1, ()⟩⟩, ⟨⟨y'_0, ⟨y'_1, ()⟩⟩, ⟨i', ()⟩⟩⟩⟩⟩⟩ => (let v0 : Int := ↑(List.length list'); bif decide (i' < v0) then ((bif decide (0 ≤ i') then list'[Int.toNat i']? else none).bind fun y1 => ((c10 (((l'_0, l'_1), ((l'_2, l'_3), (l'_4, l'_5))), (size', (y1, ())))).bind fun ⟨⟨y2_0, y2_1⟩, ⟨y2_2, ()⟩⟩ => ((bif decide (0 ≤ i') then list'[Int.toNat i']? else none).bind fun y3 => ((c11 (((l'_0, l'_1), ((l'_2, l'_3), (l'_4, l'_5))), (size', (y3, ())))).bind fun ⟨⟨y4_0, y4_1⟩, ⟨y4_2, ()⟩⟩ => (bif !(y2_0 == y4_0 && y2_1 == y4_1) then (some (.inr (.inr (false, ())))) else (bif y2_2 != y4_2 then (some (.inr (.inr (false, ())))) else (let v1 : Int := i' + 1; let v2 : Int := IntKind.wrap IntKind.i64 v1; some (.inl (size', (list', (((l'_0, l'_1), ((l'_2, l'_3), ((l'_4, l'_5), ()))), ((y2_0, (y2_1, ())), ((y4_0, (y4_1, ())), (v2, ())))))))))))))) else (some (.inr (.inl ()))))
def R3_0 : LA3_0 → Option (LA3_0 ⊕ LB3_0) := Q3_0 N7 N8 N9 N10 N11
def L3_0 : Lc τ := ⟨li3_0, itrs R3_0, lo3_0⟩
def M3 (c7 : A7 → Option B7) (c8 : A8 → Option B8) (c9 : A9 → Option B9) (c10 : A10 → Option B10) (c11 : A11 → Option B11) (l3_0 : LA3_0 → Option LB3_0) : A3 → Option B3 := fun ⟨⟨⟨l'_0, l'_1⟩, ⟨⟨l'_2, l'_3⟩, ⟨l'_4, l'_5⟩⟩⟩, ⟨size', ⟨list', ()⟩⟩⟩ => ((c7 ()).bind fun ⟨y0, ()⟩ => (bif !y0 then (some (false, ())) else ((c8 (((l'_0, l'_1), ((l'_2, l'_3), (l'_4, l'_5))), (size', ()))).bind fun ⟨⟨y2_0, y2_1⟩, ⟨y2_2, ()⟩⟩ => ((c9 (((l'_0, l'_1), ((l'_2, l'_3), (l'_4, l'_5))), (size', ()))).bind fun ⟨⟨y3_0, y3_1⟩, ⟨y3_2, ()⟩⟩ => (bif !(y2_0 == y3_0 && y2_1 == y3_1) then (some (false, ())) else (bif y2_2 != y3_2 then (some (false, ())) else ((l3_0 (size', (list', (((l'_0, l'_1), ((l'_2, l'_3), ((l'_4, l'_5), ()))), ((y2_0, (y2_1, ())), ((y3_0, (y3_1, ())), (0, ()))))))).bind fun y6 => (match y6 with | .inl () => (some (true, ())) | .inr ⟨y7, ()⟩ => (some (y7, ()))))))))))
def N3 : A3 → Option B3 := M3 N7 N8 N9 N10 N11 (itrs R3_0)
def C3 : Ctr τ := ⟨i3, o3, N3⟩
theorem g3 : GOK κ Try.prog (G3 N7 N8 N9 N10 N11) := (gok_cons s7 (gok_cons s8 (gok_cons s9 (gok_cons s10 (gok_cons s11 gok_nil)))))
theorem le3_0 : ∀ (c7 : A7 → Option B7) (c8 : A8 → Option B8) (c9 : A9 → Option B9) (c10 : A10 → Option B10) (c11 : A11 → Option B11) x, Q3_0 c7 c8 c9 c10 c11 x = run Try.prog κ (G3 c7 c8 c9 c10 c11) (tabL []) 0 (loopAt Try.f3 0) (li3_0.build x) (rnd li3_0 lo3_0) := fun c7 c8 c9 c10 c11 x => by kernel_rfl
theorem linner3_0 : ∀ Z : Zn, Z.rl = [] → 68 ≤ Z.nt → ∀ p ∈ loops 0 (loopAt Try.f3 0), ∀ C, (tabL []) p.1 = some C → LoopOK κ Try.prog Z p.2 C := fun Z h n => fun p hp => (by cases (show p ∈ ([] : List (Nat × Code)) from hp))
theorem lk3_0 : ∀ Z : Zn, Z.rl = [] → 68 ≤ Z.nt → LoopOK κ Try.prog Z (loopAt Try.f3 0) L3_0 := fun Z h n => loop_ok (S := (tabL [])) R3_0 (by kernel_rfl) g3 (by rw [h]; exact dsts_mono n _ (by kernel_rfl)) (linner3_0 Z h n) (by kernel_rfl) (by kernel_rfl) (le3_0 N7 N8 N9 N10 N11) itrs_rounds
theorem lall3 : ∀ Z : Zn, Z.rl = C3.o.keeps → Try.f3.ntmps ≤ Z.nt → ∀ p ∈ loops 0 (bodyOf Try.f3), ∀ C, (tabL [(0, L3_0)]) p.1 = some C → LoopOK κ Try.prog Z p.2 C := fun Z h n => all_loops [(0, loopAt Try.f3 0)] (by kernel_rfl) (all_cons (fun C hC => (Option.some.inj hC : L3_0 = C) ▸ lk3_0 Z h n) (fun _ h => by cases h))
theorem e3 : ∀ (c7 : A7 → Option B7) (c8 : A8 → Option B8) (c9 : A9 → Option B9) (c10 : A10 → Option B10) (c11 : A11 → Option B11) (l3_0 : LA3_0 → Option LB3_0) x, M3 c7 c8 c9 c10 c11 l3_0 x = fnE Try.prog κ (G3 c7 c8 c9 c10 c11) (tabL [(0, (⟨li3_0, l3_0, lo3_0⟩ : Lc τ))]) Try.f3 i3 o3 x := fun c7 c8 c9 c10 c11 l3_0 x => by kernel_rfl
theorem s3 : Sound κ Try.prog C3 3 := fn_sound (S := (tabL [(0, L3_0)])) (F := Try.f3) (code := bodyOf Try.f3) (by kernel_rfl) g3 Try.func3 (by kernel_rfl) (by kernel_rfl) (by kernel_rfl) lall3 (by kernel_rfl) (by kernel_rfl) fun x y h => (e3 N7 N8 N9 N10 N11 (itrs R3_0) x).symm.trans h
end Go.Proofs.Ytgdnleanagclaaa.E
namespace Go.Proofs.Ytgdnleanagclaaa.E
open Go
set_option linter.unusedVariables false
set_option maxRecDepth 100000
abbrev A40 : Type := ((Int × Int) × (Int × Int) × Unit)
abbrev B40 : Type := (Int × Unit)
def i40 : Fr τ A40 := (.val 0 (.pair (.int .i64) (.int .u64)) (.val 1 (.pair (.int .i64) (.int .u64)) .nil))
def o40 : Fr τ B40 := (.val 1000 (.int .i64) .nil)
def G40 (c61 : A61 → Option B61) (c63 : A63 → Option B63) (c60 : A60 → Option B60) (c64 : A64 → Option B64) : Nat → Option (Ctr τ) := tabG [(61, (⟨i61, o61, c61⟩ : Ctr τ)), (63, (⟨i63, o63, c63⟩ : Ctr τ)), (60, (⟨i60, o60, c60⟩ : Ctr τ)), (64, (⟨i64, o64, c64⟩ : Ctr τ))]
def M40 (c61 : A61 → Option B61) (c63 : A63 → Option B63) (c60 : A60 → Option B60) (c64 : A64 → Option B64) : A40 → Option B40 := fun ⟨⟨a'_0, a'_1⟩, ⟨⟨b'_0, b'_1⟩, ()⟩⟩ => ((c61 ((a'_0, a'_1), ())).bind fun ⟨y0, ()⟩ => ((c61 ((b'_0, b'_1), ())).bind fun ⟨y1, ()⟩ => ((c63 (y1, ())).bind fun ⟨y2, ()⟩ => ((c60 (y0, (y2, ()))).bind fun ⟨y3, ()⟩ => ((c64 (y3, ())).bind fun ⟨y4, ()⟩ => (bif y4 then (some (-1, ())) else (bif y3 == [0, 0, 0, 0, 0, 0, 0, 0, 0, 0, 0, 0] then (some (0, ())) else (some (1, ())))))))))
def N40 : A40 → Option B40 := M40 N61 N63 N60 N64
def C40 : Ctr τ := ⟨i40, o40, N40⟩
theorem g40 : GOK κ Try.prog (G40 N61 N63 N60 N64) := (gok_cons s61 (gok_cons s63 (gok_cons s60 (gok_cons s64 gok_nil))))
theorem lall40 : ∀ Z : Zn, Z.rl = C40.o.keeps → Try.f40.ntmps ≤ Z.nt → ∀ p ∈ loops 0 (bodyOf Try.f40), ∀ C, (tabL []) p.1 = some C → LoopOK κ Try.prog Z p.2 C := fun Z h n => fun p hp => (by cases (show p ∈ ([] : List (Nat × Code)) from hp))
theorem e40 : ∀ (c61 : A61 → Option B61) (c63 : A63 → Option B63) (c60 : A60 → Option B60) (c64 : A64 → Option B64) x, M40 c61 c63 c60 c64 x = fnE Try.prog κ (G40 c61 c63 c60 c64) (tabL []) Try.f40 i40 o40 x := fun c61 c63 c60 c64 x => by kernel_rfl
theorem s40 : Sound κ Try.prog C40 40 := fn_sound (S := (tabL [])) (F := Try.f40) (code := bodyOf Try.f40) (by kernel_rfl) g40 Try.func40 (by kernel_rfl) (by kernel_rfl) (by kernel_rfl) lall40 (by kernel_rfl) (by kernel_rfl) fun x y h => (e40 N61 N63 N60 N64 x).symm.trans h
end Go.Proofs.Ytgdnleanagclaaa.E
namespace Go.Proofs.Ytgdnleanagclaaa.E
open Go
set_option linter.unusedVariables false
set_option maxRecDepth 100000
abbrev A65 : Type := ((Int × Int) × Unit)
abbrev B65 : Type := (Int × Unit)
def i65 : Fr τ A65 := (.val 0 (.pair (.int .i64) (.int .u64)) .nil)
def o65 : Fr τ B65 := (.val 1000 (.int .i64) .nil)
def G65 (c61 : A61 → Option B61) (c64 : A64 → Option B64) : Nat → Option (Ctr τ) := tabG [(61, (⟨i61, o61, c61⟩ : Ctr τ)), (64, (⟨i64, o64, c64⟩ : Ctr τ))]
def M65 (c61 : A61 → Option B61) (c64 : A64 → Option B64) : A65 → Option B65 := fun ⟨⟨w'_0, w'_1⟩, ()⟩ => ((c61 ((w'_0, w'_1), ())).bind fun ⟨y0, ()⟩ => ((c64 (y0, ())).bind fun ⟨y1, ()⟩ => (bif y1 then (some (-1, ())) else (bif w'_0 == 0 then (bif w'_1 == 0 then (some (0, ())) else (some (1, ()))) else (some (1, ()))))))
def N65 : A65 → Option B65 := M65 N61 N64
def C65 : Ctr τ := ⟨i65, o65, N65⟩
theorem g65 : GOK κ Try.prog (G65 N61 N64) := (gok_cons s61 (gok_cons s64 gok_nil))
theorem lall65 : ∀ Z : Zn, Z.rl = C65.o.keeps → Try.f65.ntmps ≤ Z.nt → ∀ p ∈ loops 0 (bodyOf Try.f65), ∀ C, (tabL []) p.1 = some C → LoopOK κ Try.prog Z p.2 C := fun Z h n => fun p hp => (by cases (show p ∈ ([] : List (Nat × Code)) from hp))
theorem e65 : ∀ (c61 : A61 → Option B61) (c64 : A64 → Option B64) x, M65 c61 c64 x = fnE Try.prog κ (G65 c61 c64) (tabL []) Try.f65 i65 o65 x := fun c61 c64 x => by kernel_rfl
theorem s65 : Sound κ Try.prog C65 65 := fn_sound (S := (tabL [])) (F := Try.f65) (code := bodyOf Try.f65) (by kernel_rfl) g65 Try.func65 (by kernel_rfl) (by kernel_rfl) (by kernel_rfl) lall65 (by kernel_rfl) (by kernel_rfl) fun x y h => (e65 N61 N64 x).symm.trans h
end Go.Proofs.Ytgdnleanagclaaa.E
namespace Go.Proofs.Ytgdnleanagclaaa.E
open Go
set_option linter.unusedVariables false
set_option maxRecDepth 100000
abbrev A41 : Type := (((Int × Int) × ((Int × Int) × (Int × Int))) × Int × Int × Unit)
abbrev B41 : Type := (Bool × Unit)
def i41 : Fr τ A41 := (.val 0 (.pair (.pair (.int .i64) (.int .u64)) (.pair (.pair (.int .i64) (.int .u64)) (.pair (.int .i64) (.int .u64)))) (.val 1 (.int .i64) (.val 2 (.int .i64) .nil)))
def o41 : Fr τ B41 := (.val 1000 .bool .nil)
def G41 (c11 : A11 → Option B11) (c65 : A65 → Option B65) : Nat → Option (Ctr τ) := tabG [(11, (⟨i11, o11, c11⟩ : Ctr τ)), (65, (⟨i65, o65, c65⟩ : Ctr τ))]
def M41 (c11 : A11 → Option B11) (c65 : A65 → Option B65) : A41 → Option B41 := fun ⟨⟨⟨l'_0, l'_1⟩, ⟨⟨l'_2, l'_3⟩, ⟨l'_4, l'_5⟩⟩⟩, ⟨size', ⟨q', ()⟩⟩⟩ => ((c11 (((l'_0, l'_1), ((l'_2, l'_3), (l'_4, l'_5))), (size', (q', ())))).bind fun ⟨⟨y0_0, y0_1⟩, ⟨y0_2, ()⟩⟩ => ((c65 ((y0_0, y0_1), ())).bind fun ⟨y1, ()⟩ => (some (decide (y1 > 0), ()))))
def N41 : A41 → Option B41 := M41 N11 N65
def C41 : Ctr τ := ⟨i41, o41, N41⟩
theorem g41 : GOK κ Try.prog (G41 N11 N65) := (gok_cons s11 (gok_cons s65 gok_nil))
theorem lall41 : ∀ Z : Zn, Z.rl = C41.o.keeps → Try.f41.ntmps ≤ Z.nt → ∀ p ∈ loops 0 (bodyOf Try.f41), ∀ C, (tabL []) p.1 = some C → LoopOK κ Try.prog Z p.2 C := fun Z h n => fun p hp => (by cases (show p ∈ ([] : List (Nat × Code)) from hp))
theorem e41 : ∀ (c11 : A11 → Option B11) (c65 : A65 → Option B65) x, M41 c11 c65 x = fnE Try.prog κ (G41 c11 c65) (tabL []) Try.f41 i41 o41 x := fun c11 c65 x => by kernel_rfl
theorem s41 : Sound κ Try.prog C41 41 := fn_sound (S := (tabL [])) (F := Try.f41) (code := bodyOf Try.f41) (by kernel_rfl) g41 Try.func41 (by kernel_rfl) (by kernel_rfl) (by kernel_rfl) lall41 (by kernel_rfl) (by kernel_rfl) fun x y h => (e41 N11 N65 x).symm.trans h
end Go.Proofs.Ytgdnleanagclaaa.E
namespace Go.Proofs.Ytgdnleanagclaaa.E
open Go
set_option linter.unusedVariables false
set_option maxRecDepth 100000
abbrev A42 : Type := (Int × Int × Unit)
abbrev B42 : Type := (Int × Int × Unit)
def i42 : Fr τ A42 := (.val 0 (.int .i64) (.val 1 (.int .i64) .nil))
def o42 : Fr τ B42 := (.val 1000 (.int .i64) (.val 1001 (.int .i64) .nil))
def G42 : Nat → Option (Ctr τ) := tabG []
def M42 : A42 → Option B42 := fun ⟨size', ⟨k', ()⟩⟩ => ((bif !size' == 0 then some () else none).bind fun () => (let v0 : Int := Int.tdiv 1099511627776 size'; let v1 : Int := IntKind.wrap IntKind.i64 v0; bif decide (k' ≤ v1) then (let v2 : Int := k' - 1; let v3 : Int := IntKind.wrap IntKind.i64 v2; let v4 : Int := v3 * size'; let v5 : Int := IntKind.wrap IntKind.i64 v4; let v6 : Int := v5 + 1; let v7 : Int := IntKind.wrap IntKind.i64 v6; let v8 : Int := k' * size'; let v9 : Int := IntKind.wrap IntKind.i64 v8; some (v7, (v9, ()))) else (let v2 : Int := k' - 1; let v3 : Int := IntKind.wrap IntKind.i64 v2; let v4 : Int := v3 * size'; let v5 : Int := IntKind.wrap IntKind.i64 v4; let v6 : Int := v5 + 1; let v7 : Int := IntKind.wrap IntKind.i64 v6; some (v7, (1099511627776, ())))))
def N42 : A42 → Option B42 := M42
def C42 : Ctr τ := ⟨i42, o42, N42⟩
theorem g42 : GOK κ Try.prog (G42) := gok_nil
theorem lall42 : ∀ Z : Zn, Z.rl = C42.o.keeps → Try.f42.ntmps ≤ Z.nt → ∀ p ∈ loops 0 (bodyOf Try.f42), ∀ C, (tabL []) p.1 = some C → LoopOK κ Try.prog Z p.2 C := fun Z h n => fun p hp => (by cases (show p ∈ ([] : List (Nat × Code)) from hp))
theorem e42 : ∀ x, M42 x = fnE Try.prog κ (G42) (tabL []) Try.f42 i42 o42 x := fun x => by kernel_rfl
theorem s42 : Sound κ Try.prog C42 42 := fn_sound (S := (tabL [])) (F := Try.f42) (code := bodyOf Try.f42) (by kernel_rfl) g42 Try.func42 (by kernel_rfl) (by kernel_rfl) (by kernel_rfl) lall42 (by kernel_rfl) (by kernel_rfl) fun x y h => (e42 x).symm.trans h
end Go.Proofs.Ytgdnleanagclaaa.E
namespace Go.Proofs.Ytgdnleanagclaaa.E
open Go
set_option linter.unusedVariables false
set_option maxRecDepth 100000
abbrev A43 : Type := (((Int × Int) × ((Int × Int) × (Int × Int))) × Int × Int × Int × Bool × Unit)
abbrev B43 : Type := (Int × Unit)
def i43 : Fr τ A43 := (.val 0 (.pair (.pair (.int .i64) (.int .u64)) (.pair (.pair (.int .i64) (.int .u64)) (.pair (.int .i64) (.int .u64)))) (.val 1 (.int .i64) (.val 2 (.int .i64) (.val 3 (.int .i64) (.val 4 .bool .nil)))))
def o43 : Fr τ B43 := (.val 1000 (.int .i64) .nil)
def G43 (c41 : A41 → Option B41) : Nat → Option (Ctr τ) := tabG [(41, (⟨i41, o41, c41⟩ : Ctr τ))]
abbrev LA43_0 : Type := (Int × Int × Int × Bool × ((Int × Int) × ((Int × Int) × ((Int × Int) × Unit))) × Unit)
abbrev LB43_0 : Type := (Int × Unit)
def li43_0 : Fr τ LA43_0 := (.val 1 (.int .i64) (.val 2 (.int .i64) (.val 3 (.int .i64) (.val 4 .bool (.ptr 5 none 26 (.val (.pair (.int .i64) (.int .u64)) (.val (.pair (.int .i64) (.int .u64)) (.val (.pair (.int .i64) (.int .u64)) .nil))) .nil)))))
def lo43_0 : Ot τ LB43_0 := .one (.exit 0) (.val 2 (.int .i64) .nil)
def Q43_0 (c41 : A41 → Option B41) : LA43_0 → Option (LA43_0 ⊕ LB43_0) := fun ⟨size', ⟨lo', ⟨hi', ⟨was', ⟨⟨⟨l'_0, l'_1⟩, ⟨⟨l'_2, l'_3⟩, ⟨⟨l'_4, l'_5⟩, ()⟩⟩⟩, ()⟩⟩⟩⟩⟩ => (bif decide (lo' < hi') then (let v0 : Int := hi' - lo'; let v1 : Int := IntKind.wrap IntKind.i64 v0; let v2 : Int := Int.tdiv v1 2; let v3 : Int := IntKind.wrap IntKind.i64 v2; let v4 : Int := lo' + v3; let v5 : Int := IntKind.wrap IntKind.i64 v4; (c41 (((l'_0, l'_1), ((l'_2, l'_3), (l'_4, l'_5))), (size', (v5, ())))).bind fun ⟨y1, ()⟩ => (bif !y1 == was' then (some (.inl (size', (lo', (v5, (was', (((l'_0, l'_1), ((l'_2, l'_3), ((l'_4, l'_5), ()))), ()))))))) else (let v6 : Int := v5 + 1; let v7 : Int := IntKind.wrap IntKind.i64 v6; some (.inl (size', (v7, (hi', (was', (((l'_0, l'_1), ((l'_2, l'_3), ((l'_4, l'_5), ()))), ()))))))))) else (some (.inr (lo', ()))))
def R43_0 : LA43_0 → Option (LA43_0 ⊕ LB43_0) := Q43_0 N41
def L43_0 : Lc τ := ⟨li43_0, itrs R43_0, lo43_0⟩
def M43 (c41 : A41 → Option B41) (l43_0 : LA43_0 → Option LB43_0) : A43 → Option B43 := fun ⟨⟨⟨l'_0, l'_1⟩, ⟨⟨l'_2, l'_3⟩, ⟨l'_4, l'_5⟩⟩⟩, ⟨size', ⟨lo', ⟨hi', ⟨was', ()⟩⟩⟩⟩⟩ => ((l43_0 (size', (lo', (hi', (was', (((l'_0, l'_1), ((l'_2, l'_3), ((l'_4, l'_5), ()))), ())))))).bind fun ⟨y0, ()⟩ => (some (y0, ())))
def N43 : A43 → Option B43 := M43 N41 (itrs R43_0)
def C43 : Ctr τ := ⟨i43, o43, N43⟩
theorem g43 : GOK κ Try.prog (G43 N41) := (gok_cons s41 gok_nil)
theorem le43_0 : ∀ (c41 : A41 → Option B41) x, Q43_0 c41 x = run Try.prog κ (G43 c41) (tabL []) 0 (loopAt Try.f43 0) (li43_0.build x) (rnd li43_0 lo43_0) := fun c41 x => by kernel_rfl
theorem linner43_0 : ∀ Z : Zn, Z.rl = [] → 31 ≤ Z.nt → ∀ p ∈ loops 0 (loopAt Try.f43 0), ∀ C, (tabL []) p.1 = some C → LoopOK κ Try.prog Z p.2 C := fun Z h n => fun p hp => (by cases (show p ∈ ([] : List (Nat × Code)) from hp))
theorem lk43_0 : ∀ Z : Zn, Z.rl = [] → 31 ≤ Z.nt → LoopOK κ Try.prog Z (loopAt Try.f43 0) L43_0 := fun Z h n => loop_ok (S := (tabL [])) R43_0 (by kernel_rfl) g43 (by rw [h]; exact dsts_mono n _ (by kernel_rfl)) (linner43_0 Z h n) (by kernel_rfl) (by kernel_rfl) (le43_0 N41) itrs_rounds
theorem lall43 : ∀ Z : Zn, Z.rl = C43.o.keeps → Try.f43.ntmps ≤ Z.nt → ∀ p ∈ loops 0 (bodyOf Try.f43), ∀ C, (tabL [(0, L43_0)]) p.1 = some C → LoopOK κ Try.prog Z p.2 C := fun Z h n => all_loops [(0, loopAt Try.f43 0)] (by kernel_rfl) (all_cons (fun C hC => (Option.some.inj hC : L43_0 = C) ▸ lk43_0 Z h n) (fun _ h => by cases h))
theorem e43 : ∀ (c41 : A41 → Option B41) (l43_0 : LA43_0 → Option LB43_0) x, M43 c41 l43_0 x = fnE Try.prog κ (G43 c41) (tabL [(0, (⟨li43_0, l43_0, lo43_0⟩ : Lc τ))]) Try.f43 i43 o43 x := fun c41 l43_0 x => by kernel_rfl
theorem s43 : Sound κ Try.prog C43 43 := fn_sound (S := (tabL [(0, L43_0)])) (F := Try.f43) (code := bodyOf Try.f43) (by kernel_rfl) g43 Try.func43 (by kernel_rfl) (by kernel_rfl) (by kernel_rfl) lall43 (by kernel_rfl) (by kernel_rfl) fun x y h => (e43 N41 (itrs R43_0) x).symm.trans h
end Go.Proofs.Ytgdnleanagclaaa.E
namespace Go.Proofs.Ytgdnleanagclaaa.E
open Go
set_option linter.unusedVariables false
set_option maxRecDepth 100000
abbrev A44 : Type := (((Int × Int) × ((Int × Int) × (Int × Int))) × Int × Int × Bool × Unit)
abbrev B44 : Type := (Bool × Unit)
def i44 : Fr τ A44 := (.val 0 (.pair (.pair (.int .i64) (.int .u64)) (.pair (.pair (.int .i64) (.int .u64)) (.pair (.int .i64) (.int .u64)))) (.val 1 (.int .i64) (.val 2 (.int .i64) (.val 3 .bool .nil))))
def o44 : Fr τ B44 := (.val 1000 .bool .nil)
def G44 (c42 : A42 → Option B42) (c41 : A41 → Option B41) : Nat → Option (Ctr τ) := tabG [(42, (⟨i42, o42, c42⟩ : Ctr τ)), (41, (⟨i41, o41, c41⟩ : Ctr τ))]
def M44 (c42 : A42 → Option B42) (c41 : A41 → Option B41) : A44 → Option B44 := fun ⟨⟨⟨l'_0, l'_1⟩, ⟨⟨l'_2, l'_3⟩, ⟨l'_4, l'_5⟩⟩⟩, ⟨size', ⟨k', ⟨was', ()⟩⟩⟩⟩ => ((c42 (size', (k', ()))).bind fun ⟨y0_0, ⟨y0_1, ()⟩⟩ => ((c41 (((l'_0, l'_1), ((l'_2, l'_3), (l'_4, l'_5))), (size', (y0_0, ())))).bind fun ⟨y1, ()⟩ => (bif !y1 == was' then (some (true, ())) else ((c41 (((l'_0, l'_1), ((l'_2, l'_3), (l'_4, l'_5))), (size', (y0_1, ())))).bind fun ⟨y3, ()⟩ => (some (!y3 == was', ()))))))
def N44 : A44 → Option B44 := M44 N42 N41
def C44 : Ctr τ := ⟨i44, o44, N44⟩
theorem g44 : GOK κ Try.prog (G44 N42 N41) := (gok_cons s42 (gok_cons s41 gok_nil))
theorem lall44 : ∀ Z : Zn, Z.rl = C44.o.keeps → Try.f44.ntmps ≤ Z.nt → ∀ p ∈ loops 0 (bodyOf Try.f44), ∀ C, (tabL []) p.1 = some C → LoopOK κ Try.prog Z p.2 C := fun Z h n => fun p hp => (by cases (show p ∈ ([] : List (Nat × Code)) from hp))
theorem e44 : ∀ (c42 : A42 → Option B42) (c41 : A41 → Option B41) x, M44 c42 c41 x = fnE Try.prog κ (G44 c42 c41) (tabL []) Try.f44 i44 o44 x := fun c42 c41 x => by kernel_rfl
theorem s44 : Sound κ Try.prog C44 44 := fn_sound (S := (tabL [])) (F := Try.f44) (code := bodyOf Try.f44) (by kernel_rfl) g44 Try.func44 (by kernel_rfl) (by kernel_rfl) (by kernel_rfl) lall44 (by kernel_rfl) (by kernel_rfl) fun x y h => (e44 N42 N41 x).symm.trans h
end Go.Proofs.Ytgdnleanagclaaa.E
namespace Go.Proofs.Ytgdnleanagclaaa.E
open Go
set_option linter.unusedVariables false
set_option maxRecDepth 100000
abbrev A13 : Type := (((Int × Int) × ((Int × Int) × (Int × Int))) × Int × Int × Unit)
abbrev B13 : Type := (Int × Int × Unit)
def i13 : Fr τ A13 := (.val 0 (.pair (.pair (.int .i64) (.int .u64)) (.pair (.pair (.int .i64) (.int .u64)) (.pair (.int .i64) (.int .u64)))) (.val 1 (.int .i64) (.val 2 (.int .i64) .nil)))
def o13 : Fr τ B13 := (.val 1000 (.int .i64) (.val 1001 (.int .i64) .nil))
def G13 (c25 : A25 → Option B25) (c9 : A9 → Option B9) (c40 : A40 → Option B40) (c41 : A41 → Option B41) (c32 : A32 → Option B32) (c42 : A42 → Option B42) (c43 : A43 → Option B43) (c44 : A44 → Option B44) : Nat → Option (Ctr τ) := tabG [(25, (⟨i25, o25, c25⟩ : Ctr τ)), (9, (⟨i9, o9, c9⟩ : Ctr τ)), (40, (⟨i40, o40, c40⟩ : Ctr τ)), (41, (⟨i41, o41, c41⟩ : Ctr τ)), (32, (⟨i32, o32, c32⟩ : Ctr τ)), (42, (⟨i42, o42, c42⟩ : Ctr τ)), (43, (⟨i43, o43, c43⟩ : Ctr τ)), (44, (⟨i44, o44, c44⟩ : Ctr τ))]
abbrev LA13_0 : Type := (Int × ((Int × Int) × ((Int × Int) × ((Int × Int) × Unit))) × Bool × Int × Int × Int × Unit)
abbrev LB13_0 : Type := (Int × ((Int × Int) × ((Int × Int) × ((Int × Int) × Unit))) × Bool × Int × Int × Unit)
def li13_0 : Fr τ LA13_0 := (.val 1 (.int .i64) (.ptr 3 none 26 (.val (.pair (.int .i64) (.int .u64)) (.val (.pair (.int .i64) (.int .u64)) (.val (.pair (.int .i64) (.int .u64)) .nil))) (.val 10 .bool (.val 11 (.int .i64) (.val 15 (.int .i64) (.val 16 (.int .i64) .nil))))))
def lo13_0 : Ot τ LB13_0 := .one (.exit 0) (.val 1 (.int .i64) (.ptr 3 none 26 (.val (.pair (.int .i64) (.int .u64)) (.val (.pair (.int .i64) (.int .u64)) (.val (.pair (.int .i64) (.int .u64)) .nil))) (.val 10 .bool (.val 11 (.int .i64) (.val 15 (.int .i64) .nil)))))
def Q13_0 (c25 : A25 → Option B25) (c9 : A9 → Option B9) (c40 : A40 → Option B40) (c41 : A41 → Option B41) (c32 : A32 → Option B32) (c42 : A42 → Option B42) (c43 : A43 → Option B43) (c44 : A44 → Option B44) : LA13_0 → Option (LA13_0 ⊕ LB13_0) := fun ⟨size', ⟨⟨⟨l'_0, l'_1⟩, ⟨⟨l'_2, l'_3⟩, ⟨⟨l'_4, l'_5⟩, ()⟩⟩⟩, ⟨was', ⟨last', ⟨j', ⟨lo', ()⟩⟩⟩⟩⟩⟩ => (bif decide (lo' < j') then (let v0 : Int := j' - lo'; let v1 : Int := IntKind.wrap IntKind.i64 v0; let v2 : Int := Int.tdiv v1 2; let v3 : Int := IntKind.wrap IntKind.i64 v2; let v4 : Int := lo' + v3; let v5 : Int := IntKind.wrap IntKind.i64 v4; (c44 (((l'_0, l'_1), ((l'_2, l'_3), (l'_4, l'_5))), (size', (v5, (was', ()))))).bind fun ⟨y1, ()⟩ => (bif y1 then (some (.inl (size', (((l'_0, l'_1), ((l'_2, l'_3), ((l'_4, l'_5), ()))), (was', (last', (v5, (lo', ())))))))) else (let v6 : Int := v5 + 1; let v7 : Int := IntKind.wrap IntKind.i64 v6; some (.inl (size', (((l'_0, l'_1), ((l'_2, l'_3), ((l'_4, l'_5), ()))), (was', (last', (j', (v7, ())))))))))) else (some (.inr (size', (((l'_0, l'_1), ((l'_2, l'_3), ((l'_4, l'_5), ()))), (was', (last', (j', ()))))))))
def R13_0 : LA13_0 → Option (LA13_0 ⊕ LB13_0) := Q13_0 N25 N9 N40 N41 N32 N42 N43 N44
def L13_0 : Lc τ := ⟨li13_0, itrs R13_0, lo13_0⟩
def M13 (c25 : A25 → Option B25) (c9 : A9 → Option B9) (c40 : A40 → Option B40) (c41 : A41 → Option B41) (c32 : A32 → Option B32) (c42 : A42 → Option B42) (c43 : A43 → Option B43) (c44 : A44 → Option B44) (l13_0 : LA13_0 → Option LB13_0) : A13 → Option B13 := fun ⟨⟨⟨l'_0, l'_1⟩, ⟨⟨l'_2, l'_3⟩, ⟨l'_4, l'_5⟩⟩⟩, ⟨size', ⟨q', ()⟩⟩⟩ => ((c25 (size', (q', ()))).bind fun ⟨y0, ()⟩ => (bif !y0 then (some (0, (1, ()))) else ((c9 (((l'_0, l'_1), ((l'_2, l'_3), (l'_4, l'_5))), (size', ()))).bind fun ⟨⟨y2_0, y2_1⟩, ⟨y2_2, ()⟩⟩ => (bif y2_2 != 0 then (some (0, (10, ()))) else ((c40 ((y2_0, y2_1), ((4611686018427387904, 0), ()))).bind fun ⟨y4, ()⟩ => (bif decide (y4 > 0) then (some (0, (10, ()))) else ((c41 (((l'_0, l'_1), ((l'_2, l'_3), (l'_4, l'_5))), (size', (q', ())))).bind fun ⟨y6, ()⟩ => ((c32 (1099511627776, (size', ()))).bind fun ⟨y7, ()⟩ => ((c32 (q', (size', ()))).bind fun ⟨y8, ()⟩ => (bif decide (y8 > 0) then ((c42 (size', (y8, ()))).bind fun ⟨y10_0, ⟨y10_1, ()⟩⟩ => (bif decide (q' < y10_1) then ((c41 (((l'_0, l'_1), ((l'_2, l'_3), (l'_4, l'_5))), (size', (y10_1, ())))).bind fun ⟨y12, ()⟩ => (bif !y12 == y6 then (let v0 : Int := q' + 1; let v1 : Int := IntKind.wrap IntKind.i64 v0; (c43 (((l'_0, l'_1), ((l'_2, l'_3), (l'_4, l'_5))), (size', (v1, (y10_1, (y6, ())))))).bind fun ⟨y14, ()⟩ => (some (y14, (0, ())))) else (let v0 : Int := y8 + 1; let v1 : Int := IntKind.wrap IntKind.i64 v0; bif decide (v1 < y7) then ((c44 (((l'_0, l'_1), ((l'_2, l'_3), (l'_4, l'_5))), (size', (v1, (y6, ()))))).bind fun ⟨y15, ()⟩ => (bif !y15 then (let v2 : Int := y7 - 1; let v3 : Int := IntKind.wrap IntKind.i64 v2; (c44 (((l'_0, l'_1), ((l'_2, l'_3), (l'_4, l'_5))), (size', (v3, (y6, ()))))).bind fun ⟨y17, ()⟩ => (bif y17 then ((l13_0 (size', (((l'_0, l'_1), ((l'_2, l'_3), ((l'_4, l'_5), ()))), (y6, (y7, (v3, (v1, ()))))))).bind fun ⟨y19_0, ⟨⟨⟨y19_1, y19_2⟩, ⟨⟨y19_3, y19_4⟩, ⟨⟨y19_5, y19_6⟩, ()⟩⟩⟩, ⟨y19_7, ⟨y19_8, ⟨y19_9, ()⟩⟩⟩⟩⟩ => (bif decide (y19_9 > y19_8) then (some (1099511627777, (0, ()))) else ((c44 (((y19_1, y19_2), ((y19_3, y19_4), (y19_5, y19_6))), (y19_0, (y19_9, (y19_7, ()))))).bind fun ⟨y21, ()⟩ => (bif !y21 then (some (1099511627777, (0, ()))) else ((c42 (y19_0, (y19_9, ()))).bind fun ⟨y23_0, ⟨y23_1, ()⟩⟩ => ((c41 (((y19_1, y19_2), ((y19_3, y19_4), (y19_5, y19_6))), (y19_0, (y23_0, ())))).bind fun ⟨y24, ()⟩ => (bif !y24 == y19_7 then (some (y23_0, (0, ()))) else ((c43 (((y19_1, y19_2), ((y19_3, y19_4), (y19_5, y19_6))), (y19_0, (y23_0, (y23_1, (y19_7, ())))))).bind fun ⟨y26, ()⟩ => (some (y26, (0, ()))))))))))) else (bif decide (y7 > y7) then (some (1099511627777, (0, ()))) else ((c44 (((l'_0, l'_1), ((l'_2, l'_3), (l'_4, l'_5))), (size', (y7, (y6, ()))))).bind fun ⟨y20, ()⟩ => (bif !y20 then (some (1099511627777, (0, ()))) else ((c42 (size', (y7, ()))).bind fun ⟨y22_0, ⟨y22_1, ()⟩⟩ => ((c41 (((l'_0, l'_1), ((l'_2, l'_3), (l'_4, l'_5))), (size', (y22_0, ())))).bind fun ⟨y23, ()⟩ => (bif !y23 == y6 then (some (y22_0, (0, ()))) else ((c43 (((l'_0, l'_1), ((l'_2, l'_3), (l'_4, l'_5))), (size', (y22_0, (y22_1, (y6, ())))))).bind fun ⟨y25, ()⟩ => (some (y25, (0, ())))))))))))) else (bif decide (v1 > y7) then (some (1099511627777, (0, ()))) else ((c44 (((l'_0, l'_1), ((l'_2, l'_3), (l'_4, l'_5))), (size', (v1, (y6, ()))))).bind fun ⟨y18, ()⟩ => (bif !y18 then (some (1099511627777, (0, ()))) else ((c42 (size', (v1, ()))).bind fun ⟨y20_0, ⟨y20_1, ()⟩⟩ => ((c41 (((l'_0, l'_1), ((l'_2, l'_3), (l'_4, l'_5))), (size', (y20_0, ())))).bind fun ⟨y21, ()⟩ => (bif !y21 == y6 then (some (y20_0, (0, ()))) else ((c43 (((l'_0, l'_1), ((l'_2, l'_3), (l'_4, l'_5))), (size', (y20_0, (y20_1, (y6, ())))))).bind fun ⟨y23, ()⟩ => (some (y23, (0, ())))))))))))) else (bif decide (v1 > y7) then (some (1099511627777, (0, ()))) else ((c44 (((l'_0, l'_1), ((l'_2, l'_3), (l'_4, l'_5))), (size', (v1, (y6, ()))))).bind fun ⟨y16, ()⟩ => (bif !y16 then (some (1099511627777, (0, ()))) else ((c42 (size', (v1, ()))).bind fun ⟨y18_0, ⟨y18_1, ()⟩⟩ => ((c41 (((l'_0, l'_1), ((l'_2, l'_3), (l'_4, l'_5))), (size', (y18_0, ())))).bind fun ⟨y19, ()⟩ => (bif !y19 == y6 then (some (y18_0, (0, ()))) else ((c43 (((l'_0, l'_1), ((l'_2, l'_3), (l'_4, l'_5))), (size', (y18_0, (y18_1, (y6, ())))))).bind fun ⟨y21, ()⟩ => (some (y21, (0, ()))))))))))))) else (let v0 : Int := y8 + 1; let v1 : Int := IntKind.wrap IntKind.i64 v0; bif decide (v1 < y7) then ((c44 (((l'_0, l'_1), ((l'_2, l'_3), (l'_4, l'_5))), (size', (v1, (y6, ()))))).bind fun ⟨y13, ()⟩ => (bif !y13 then (let v2 : Int := y7 - 1; let v3 : Int := IntKind.wrap IntKind.i64 v2; (c44 (((l'_0, l'_1), ((l'_2, l'_3), (l'_4, l'_5))), (size', (v3, (y6, ()))))).bind fun ⟨y15, ()⟩ => (bif y15 then ((l13_0 (size', (((l'_0, l'_1), ((l'_2, l'_3), ((l'_4, l'_5), ()))), (y6, (y7, (v3, (v1, ()))))))).bind fun ⟨y17_0, ⟨⟨⟨y17_1, y17_2⟩, ⟨⟨y17_3, y17_4⟩, ⟨⟨y17_5, y17_6⟩, ()⟩⟩⟩, ⟨y17_7, ⟨y17_8, ⟨y17_9, ()⟩⟩⟩⟩⟩ => (bif decide (y17_9 > y17_8) then (some (1099511627777, (0, ()))) else ((c44 (((y17_1, y17_2), ((y17_3, y17_4), (y17_5, y17_6))), (y17_0, (y17_9, (y17_7, ()))))).bind fun ⟨y19, ()⟩ => (bif !y19 then (some (1099511627777, (0, ()))) else ((c42 (y17_0, (y17_9, ()))).bind fun ⟨y21_0, ⟨y21_1, ()⟩⟩ => ((c41 (((y17_1, y17_2), ((y17_3, y17_4), (y17_5, y17_6))), (y17_0, (y21_0, ())))).bind fun ⟨y22, ()⟩ => (bif !y22 == y17_7 then (some (y21_0, (0, ()))) else ((c43 (((y17_1, y17_2), ((y17_3, y17_4), (y17_5, y17_6))), (y17_0, (y21_0, (y21_1, (y17_7, ())))))).bind fun ⟨y24, ()⟩ => (some (y24, (0, ()))))))))))) else (bif decide (y7 > y7) then (some (1099511627777, (0, ()))) else ((c44 (((l'_0, l'_1), ((l'_2, l'_3), (l'_4, l'_5))), (size', (y7, (y6, ()))))).bind fun ⟨y18, ()⟩ => (bif !y18 then (some (1099511627777, (0, ()))) else ((c42 (size', (y7, ()))).bind fun ⟨y20_0, ⟨y20_1, ()⟩⟩ => ((c41 (((l'_0, l'_1), ((l'_2, l'_3), (l'_4, l'_5))), (size', (y20_0, ())))).bind fun ⟨y21, ()⟩ => (bif !y21 == y6 then (some (y20_0, (0, ()))) else ((c43 (((l'_0, l'_1), ((l'_2, l'_3), (l'_4, l'_5))), (size', (y20_0, (y20_1, (y6, ())))))).bind fun ⟨y23, ()⟩ => (some (y23, (0, ())))))))))))) else (bif decide (v1 > y7) then (some (1099511627777, (0, ()))) else ((c44 (((l'_0, l'_1), ((l'_2, l'_3), (l'_4, l'_5))), (size', (v1, (y6, ()))))).bind fun ⟨y16, ()⟩ => (bif !y16 then (some (1099511627777, (0, ()))) else ((c42 (size', (v1, ()))).bind fun ⟨y18_0, ⟨y18_1, ()⟩⟩ => ((c41 (((l'_0, l'_1), ((l'_2, l'_3), (l'_4, l'_5))), (size', (y18_0, ())))).bind fun ⟨y19, ()⟩ => (bif !y19 == y6 then (some (y18_0, (0, ()))) else ((c43 (((l'_0, l'_1), ((l'_2, l'_3), (l'_4, l'_5))), (size', (y18_0, (y18_1, (y6, ())))))).bind fun ⟨y21, ()⟩ => (some (y21, (0, ())))))))))))) else (bif decide (v1 > y7) then (some (1099511627777, (0, ()))) else ((c44 (((l'_0, l'_1), ((l'_2, l'_3), (l'_4, l'_5))), (size', (v1, (y6, ()))))).bind fun ⟨y14, ()⟩ => (bif !y14 then (some (1099511627777, (0, ()))) else ((c42 (size', (v1, ()))).bind fun ⟨y16_0, ⟨y16_1, ()⟩⟩ => ((c41 (((l'_0, l'_1), ((l'_2, l'_3), (l'_4, l'_5))), (size', (y16_0, ())))).bind fun ⟨y17, ()⟩ => (bif !y17 == y6 then (some (y16_0, (0, ()))) else ((c43 (((l'_0, l'_1), ((l'_2, l'_3), (l'_4, l'_5))), (size', (y16_0, (y16_1, (y6, ())))))).bind fun ⟨y19, ()⟩ => (some (y19, (0, ()))))))))))))) else (let v0 : Int := y8 + 1; let v1 : Int := IntKind.wrap IntKind.i64 v0; bif decide (v1 < y7) then ((c44 (((l'_0, l'_1), ((l'_2, l'_3), (l'_4, l'_5))), (size', (v1, (y6, ()))))).bind fun ⟨y11, ()⟩ => (bif !y11 then (let v2 : Int := y7 - 1; let v3 : Int := IntKind.wrap IntKind.i64 v2; (c44 (((l'_0, l'_1), ((l'_2, l'_3), (l'_4, l'_5))), (size', (v3, (y6, ()))))).bind fun ⟨y13, ()⟩ => (bif y13 then ((l13_0 (size', (((l'_0, l'_1), ((l'_2, l'_3), ((l'_4, l'_5), ()))), (y6, (y7, (v3, (v1, ()))))))).bind fun ⟨y15_0, ⟨⟨⟨y15_1, y15_2⟩, ⟨⟨y15_3, y15_4⟩, ⟨⟨y15_5, y15_6⟩, ()⟩⟩⟩, ⟨y15_7, ⟨y15_8, ⟨y15_9, ()⟩⟩⟩⟩⟩ => (bif decide (y15_9 > y15_8) then (some (1099511627777, (0, ()))) else ((c44 (((y15_1, y15_2), ((y15_3, y15_4), (y15_5, y15_6))), (y15_0, (y15_9, (y15_7, ()))))).bind fun ⟨y17, ()⟩ => (bif !y17 then (some (1099511627777, (0, ()))) else ((c42 (y15_0, (y15_9, ()))).bind fun ⟨y19_0, ⟨y19_1, ()⟩⟩ => ((c41 (((y15_1, y15_2), ((y15_3, y15_4), (y15_5, y15_6))), (y15_0, (y19_0, ())))).bind fun ⟨y20, ()⟩ => (bif !y20 == y15_7 then (some (y19_0, (0, ()))) else ((c43 (((y15_1, y15_2), ((y15_3, y15_4), (y15_5, y15_6))), (y15_0, (y19_0, (y19_1, (y15_7, ())))))).bind fun ⟨y22, ()⟩ => (some (y22, (0, ()))))))))))) else (bif decide (y7 > y7) then (some (1099511627777, (0, ()))) else ((c44 (((l'_0, l'_1), ((l'_2, l'_3), (l'_4, l'_5))), (size', (y7, (y6, ()))))).bind fun ⟨y16, ()⟩ => (bif !y16 then (some (1099511627777, (0, ()))) else ((c42 (size', (y7, ()))).bind fun ⟨y18_0, ⟨y18_1, ()⟩⟩ => ((c41 (((l'_0, l'_1), ((l'_2, l'_3), (l'_4, l'_5))), (size', (y18_0, ())))).bind fun ⟨y19, ()⟩ => (bif !y19 == y6 then (some (y18_0, (0, ()))) else ((c43 (((l'_0, l'_1), ((l'_2, l'_3), (l'_4, l'_5))), (size', (y18_0, (y18_1, (y6, ())))))).bind fun ⟨y21, ()⟩ => (some (y21, (0, ())))))))))))) else (bif decide (v1 > y7) then (some (1099511627777, (0, ()))) else ((c44 (((l'_0, l'_1), ((l'_2, l'_3), (l'_4, l'_5))), (size', (v1, (y6, ()))))).bind fun ⟨y14, ()⟩ => (bif !y14 then (some (1099511627777, (0, ()))) else ((c42 (size', (v1, ()))).bind fun ⟨y16_0, ⟨y16_1, ()⟩⟩ => ((c41 (((l'_0, l'_1), ((l'_2, l'_3), (l'_4, l'_5))), (size', (y16_0, ())))).bind fun ⟨y17, ()⟩ => (bif !y17 == y6 then (some (y16_0, (0, ()))) else ((c43 (((l'_0, l'_1), ((l'_2, l'_3), (l'_4, l'_5))), (size', (y16_0, (y16_1, (y6, ())))))).bind fun ⟨y19, ()⟩ => (some (y19, (0, ())))))))))))) else (bif decide (v1 > y7) then (some (1099511627777, (0, ()))) else ((c44 (((l'_0, l'_1), ((l'_2, l'_3), (l'_4, l'_5))), (size', (v1, (y6, ()))))).bind fun ⟨y12, ()⟩ => (bif !y12 then (some (1099511627777, (0, ()))) else ((c42 (size', (v1, ()))).bind fun ⟨y14_0, ⟨y14_1, ()⟩⟩ => ((c41 (((l'_0, l'_1), ((l'_2, l'_3), (l'_4, l'_5))), (size', (y14_0, ())))).bind fun ⟨y15, ()⟩ => (bif !y15 == y6 then (some (y14_0, (0, ()))) else ((c43 (((l'_0, l'_1), ((l'_2, l'_3), (l'_4, l'_5))), (size', (y14_0, (y14_1, (y6, ())))))).bind fun ⟨y17, ()⟩ => (some (y17, (0, ())))))))))))))))))))))
def N13 : A13 → Option B13 := M13 N25 N9 N40 N41 N32 N42 N43 N44 (itrs R13_0)
def C13 : Ctr τ := ⟨i13, o13, N13⟩
theorem g13 : GOK κ Try.prog (G13 N25 N9 N40 N41 N32 N42 N43 N44) := (gok_cons s25 (gok_cons s9 (gok_cons s40 (gok_cons s41 (gok_cons s32 (gok_cons s42 (gok_cons s43 (gok_cons s44 gok_nil))))))))
theorem le13_0 : ∀ (c25 : A25 → Option B25) (c9 : A9 → Option B9) (c40 : A40 → Option B40) (c41 : A41 → Option B41) (c32 : A32 → Option B32) (c42 : A42 → Option B42) (c43 : A43 → Option B43) (c44 : A44 → Option B44) x, Q13_0 c25 c9 c40 c41 c32 c42 c43 c44 x = run Try.prog κ (G13 c25 c9 c40 c41 c32 c42 c43 c44) (tabL []) 0 (loopAt Try.f13 0) (li13_0.build x) (rnd li13_0 lo13_0) := fun c25 c9 c40 c41 c32 c42 c43 c44 x => by kernel_rfl
theorem linner13_0 : ∀ Z : Zn, Z.rl = [] → 143 ≤ Z.nt → ∀ p ∈ loops 0 (loopAt Try.f13 0), ∀ C, (tabL []) p.1 = some C → LoopOK κ Try.prog Z p.2 C := fun Z h n => fun p hp => (by cases (show p ∈ ([] : List (Nat × Code)) from hp))
theorem lk13_0 : ∀ Z : Zn, Z.rl = [] → 143 ≤ Z.nt → LoopOK κ Try.prog Z (loopAt Try.f13 0) L13_0 := fun Z h n => loop_ok (S := (tabL [])) R13_0 (by kernel_rfl) g13 (by rw [h]; exact dsts_mono n _ (by kernel_rfl)) (linner13_0 Z h n) (by kernel_rfl) (by kernel_rfl) (le13_0 N25 N9 N40 N41 N32 N42 N43 N44) itrs_rounds
theorem lall13 : ∀ Z : Zn, Z.rl = C13.o.keeps → Try.f13.ntmps ≤ Z.nt → ∀ p ∈ loops 0 (bodyOf Try.f13), ∀ C, (tabL [(0, L13_0)]) p.1 = some C → LoopOK κ Try.prog Z p.2 C := fun Z h n => all_loops [(0, loopAt Try.f13 0)] (by kernel_rfl) (all_cons (fun C hC => (Option.some.inj hC : L13_0 = C) ▸ lk13_0 Z h n) (fun _ h => by cases h))
theorem e13 : ∀ (c25 : A25 → Option B25) (c9 : A9 → Option B9) (c40 : A40 → Option B40) (c41 : A41 → Option B41) (c32 : A32 → Option B32) (c42 : A42 → Option B42) (c43 : A43 → Option B43) (c44 : A44 → Option B44) (l13_0 : LA13_0 → Option LB13_0) x, M13 c25 c9 c40 c41 c32 c42 c43 c44 l13_0 x = fnE Try.prog κ (G13 c25 c9 c40 c41 c32 c42 c43 c44) (tabL [(0, (⟨li13_0, l13_0, lo13_0⟩ : Lc τ))]) Try.f13 i13 o13 x := fun c25 c9 c40 c41 c32 c42 c43 c44 l13_0 x => by kernel_rfl
theorem s13 : Sound κ Try.prog C13 13 := fn_sound (S := (tabL [(0, L13_0)])) (F := Try.f13) (code := bodyOf Try.f13) (by kernel_rfl) g13 Try.func13 (by kernel_rfl) (by kernel_rfl) (by kernel_rfl) lall13 (by kernel_rfl) (by kernel_rfl) fun x y h => (e13 N25 N9 N40 N41 N32 N42 N43 N44 (itrs R13_0) x).symm.trans h
end Go.Proofs.Ytgdnleanagclaaa.E
namespace Go.Proofs.Ytgdnleanagclaaa.E
open Go
set_option linter.unusedVariables false
set_option maxRecDepth 100000
abbrev A4 : Type := (((Int × Int) × ((Int × Int) × (Int × Int))) × Int × (List T2) × Unit)
abbrev B4 : Type := (Bool × Unit)
def i4 : Fr τ A4 := (.val 0 (.pair (.pair (.int .i64) (.int .u64)) (.pair (.pair (.int .i64) (.int .u64)) (.pair (.int .i64) (.int .u64)))) (.val 1 (.int .i64) (.val 2 (.sl 2) .nil)))
def o4 : Fr τ B4 := (.val 1000 .bool .nil)
def G4 (c7 : A7 → Option B7) (c12 : A12 → Option B12) (c13 : A13 → Option B13) : Nat → Option (Ctr τ) := tabG [(7, (⟨i7, o7, c7⟩ : Ctr τ)), (12, (⟨i12, o12, c12⟩ : Ctr τ)), (13, (⟨i13, o13, c13⟩ : Ctr τ))]
abbrev LA4_0 : Type := (Int × (List T2) × ((Int × Int) × ((Int × Int) × ((Int × Int) × Unit))) × Int × Unit)
abbrev LB4_0 : Type := (Unit) ⊕ (Bool × Unit)
def li4_0 : Fr τ LA4_0 := (.val 1 (.int .i64) (.val 2 (.sl 2) (.ptr 3 none 26 (.val (.pair (.int .i64) (.int .u64)) (.val (.pair (.int .i64) (.int .u64)) (.val (.pair (.int .i64) (.int .u64)) .nil))) (.val 7 (.int .i64) .nil))))
def lo4_0 : Ot τ LB4_0 := .alt (.exit 0) .nil (.one .ret (.val 6 .bool .nil))
def Q4_0 (c7 : A7 → Option B7) (c12 : A12 → Option B12) (c13 : A13 → Option B13) : LA4_0 → Option (LA4_0 ⊕ LB4_0) := fun ⟨size', ⟨list', ⟨⟨⟨l'_0, l'_1⟩, ⟨⟨l'_2, l'_3⟩, ⟨⟨l'_4, l'_5⟩, ()⟩⟩⟩, ⟨i', ()⟩⟩⟩⟩ => (let v0 : Int := ↑(List.length list'); bif decide (i' < v0) then (bif decide (i' < 256) then ((bif decide (0 ≤ i') then list'[Int.toNat i']? else none).bind fun y2 => ((c12 (((l'_0, l'_1), ((l'_2, l'_3), (l'_4, l'_5))), (size', (y2, ())))).bind fun ⟨y3_0, ⟨y3_1, ()⟩⟩ => ((bif decide (0 ≤ i') then list'[Int.toNat i']? else none).bind fun y4 => ((c13 (((l'_0, l'_1), ((l'_2, l'_3), (l'_4, l'_5))), (size', (y4, ())))).bind fun ⟨y5_0, ⟨y5_1, ()⟩⟩ => (bif y3_0 != y5_0 then (some (.inr (.inr (false, ())))) else (bif y3_1 != y5_1 then (some (.inr (.inr (false, ())))) else (let v1 : Int := i' + 1; let v2 : Int := IntKind.wrap IntKind.i64 v1; some (.inl (size', (list', (((l'_0, l'_1), ((l'_2, l'_3), ((l'_4, l'_5), ()))), (v2, ())))))))))))) else (some (.inr (.inl ())))) else (some (.inr (.inl ()))))
def R4_0 : LA4_0 → Option (LA4_0 ⊕ LB4_0) := Q4_0 N7 N12 N13
def L4_0 : Lc τ := ⟨li4_0, itrs R4_0, lo4_0⟩
def M4 (c7 : A7 → Option B7) (c12 : A12 → Option B12) (c13 : A13 → Option B13) (l4_0 : LA4_0 → Option LB4_0) : A4 → Option B4 := fun ⟨⟨⟨l'_0, l'_1⟩, ⟨⟨l'_2, l'_3⟩, ⟨l'_4, l'_5⟩⟩⟩, ⟨size', ⟨list', ()⟩⟩⟩ => ((c7 ()).bind fun ⟨y0, ()⟩ => (bif !y0 then (some (false, ())) else ((l4_0 (size', (list', (((l'_0, l'_1), ((l'_2, l'_3), ((l'_4, l'_5), ()))), (0, ()))))).bind fun y2 => (match y2 with | .inl () => (some (true, ())) | .inr ⟨y3, ()⟩ => (some (y3, ()))))))
def N4 : A4 → Option B4 := M4 N7 N12 N13 (itrs R4_0)
def C4 : Ctr τ := ⟨i4, o4, N4⟩
theorem g4 : GOK κ Try.prog (G4 N7 N12 N13) := (gok_cons s7 (gok_cons s12 (gok_cons s13 gok_nil)))
theorem le4_0 : ∀ (c7 : A7 → Option B7) (c12 : A12 → Option B12) (c13 : A13 → Option B13) x, Q4_0 c7 c12 c13 x = run Try.prog κ (G4 c7 c12 c13) (tabL []) 0 (loopAt Try.f4 0) (li4_0.build x) (rnd li4_0 lo4_0) := fun c7 c12 c13 x => by kernel_rfl
theorem linner4_0 : ∀ Z : Zn, Z.rl = [] → 52 ≤ Z.nt → ∀ p ∈ loops 0 (loopAt Try.f4 0), ∀ C, (tabL []) p.1 = some C → LoopOK κ Try.prog Z p.2 C := fun Z h n => fun p hp => (by cases (show p ∈ ([] : List (Nat × Code)) from hp))
theorem lk4_0 : ∀ Z : Zn, Z.rl = [] → 52 ≤ Z.nt → LoopOK κ Try.prog Z (loopAt Try.f4 0) L4_0 := fun Z h n => loop_ok (S := (tabL [])) R4_0 (by kernel_rfl) g4 (by rw [h]; exact dsts_mono n _ (by kernel_rfl)) (linner4_0 Z h n) (by kernel_rfl) (by kernel_rfl) (le4_0 N7 N12 N13) itrs_rounds
theorem lall4 : ∀ Z : Zn, Z.rl = C4.o.keeps → Try.f4.ntmps ≤ Z.nt → ∀ p ∈ loops 0 (bodyOf Try.f4), ∀ C, (tabL [(0, L4_0)]) p.1 = some C → LoopOK κ Try.prog Z p.2 C := fun Z h n => all_loops [(0, loopAt Try.f4 0)] (by kernel_rfl) (all_cons (fun C hC => (Option.some.inj hC : L4_0 = C) ▸ lk4_0 Z h n) (fun _ h => by cases h))
theorem e4 : ∀ (c7 : A7 → Option B7) (c12 : A12 → Option B12) (c13 : A13 → Option B13) (l4_0 : LA4_0 → Option LB4_0) x, M4 c7 c12 c13 l4_0 x = fnE Try.prog κ (G4 c7 c12 c13) (tabL [(0, (⟨li4_0, l4_0, lo4_0⟩ : Lc τ))]) Try.f4 i4 o4 x := fun c7 c12 c13 l4_0 x => by kernel_rfl
theorem s4 : Sound κ Try.prog C4 4 := fn_sound (S := (tabL [(0, L4_0)])) (F := Try.f4) (code := bodyOf Try.f4) (by kernel_rfl) g4 Try.func4 (by kernel_rfl) (by kernel_rfl) (by kernel_rfl) lall4 (by kernel_rfl) (by kernel_rfl) fun x y h => (e4 N7 N12 N13 (itrs R4_0) x).symm.trans h
end Go.Proofs.Ytgdnleanagclaaa.E
namespace Go.Proofs.Ytgdnleanagclaaa.E
open Go
set_option linter.unusedVariables false
set_option maxRecDepth 100000
abbrev A14 : Type := (((Int × Int) × ((Int × Int) × (Int × Int))) × Int × Int × Unit)
abbrev B14 : Type := (Bool × Unit)
def i14 : Fr τ A14 := (.val 0 (.pair (.pair (.int .i64) (.int .u64)) (.pair (.pair (.int .i64) (.int .u64)) (.pair (.int .i64) (.int .u64)))) (.val 1 (.int .i64) (.val 2 (.int .i64) .nil)))
def o14 : Fr τ B14 := (.val 1000 .bool .nil)
def G14 (c10 : A10 → Option B10) (c35 : A35 → Option B35) : Nat → Option (Ctr τ) := tabG [(10, (⟨i10, o10, c10⟩ : Ctr τ)), (35, (⟨i35, o35, c35⟩ : Ctr τ))]
def M14 (c10 : A10 → Option B10) (c35 : A35 → Option B35) : A14 → Option B14 := fun ⟨⟨⟨l'_0, l'_1⟩, ⟨⟨l'_2, l'_3⟩, ⟨l'_4, l'_5⟩⟩⟩, ⟨size', ⟨q', ()⟩⟩⟩ => ((c10 (((l'_0, l'_1), ((l'_2, l'_3), (l'_4, l'_5))), (size', (q', ())))).bind fun ⟨⟨y0_0, y0_1⟩, ⟨y0_2, ()⟩⟩ => ((c35 ((y0_0, y0_1), ())).bind fun ⟨y1, ()⟩ => (some (decide (y1 > 0), ()))))
def N14 : A14 → Option B14 := M14 N10 N35
def C14 : Ctr τ := ⟨i14, o14, N14⟩
theorem g14 : GOK κ Try.prog (G14 N10 N35) := (gok_cons s10 (gok_cons s35 gok_nil))
theorem lall14 : ∀ Z : Zn, Z.rl = C14.o.keeps → Try.f14.ntmps ≤ Z.nt → ∀ p ∈ loops 0 (bodyOf Try.f14), ∀ C, (tabL []) p.1 = some C → LoopOK κ Try.prog Z p.2 C := fun Z h n => fun p hp => (by cases (show p ∈ ([] : List (Nat × Code)) from hp))
theorem e14 : ∀ (c10 : A10 → Option B10) (c35 : A35 → Option B35) x, M14 c10 c35 x = fnE Try.prog κ (G14 c10 c35) (tabL []) Try.f14 i14 o14 x := fun c10 c35 x => by kernel_rfl
theorem s14 : Sound κ Try.prog C14 14 := fn_sound (S := (tabL [])) (F := Try.f14) (code := bodyOf Try.f14) (by kernel_rfl) g14 Try.func14 (by kernel_rfl) (by kernel_rfl) (by kernel_rfl) lall14 (by kernel_rfl) (by kernel_rfl) fun x y h => (e14 N10 N35 x).symm.trans h
end Go.Proofs.Ytgdnleanagclaaa.E
namespace Go.Proofs.Ytgdnleanagclaaa.E
open Go
set_option linter.unusedVariables false
set_option maxRecDepth 100000
abbrev A5 : Type := (((Int × Int) × ((Int × Int) × (Int × Int))) × Int × Int × (List T2) × Unit)
abbrev B5 : Type := (Bool × Unit)
def i5 : Fr τ A5 := (.val 0 (.pair (.pair (.int .i64) (.int .u64)) (.pair (.pair (.int .i64) (.int .u64)) (.pair (.int .i64) (.int .u64)))) (.val 1 (.int .i64) (.val 2 (.int .i64) (.val 3 (.sl 2) .nil))))
def o5 : Fr τ B5 := (.val 1000 .bool .nil)
def G5 (c7 : A7 → Option B7) (c12 : A12 → Option B12) (c14 : A14 → Option B14) : Nat → Option (Ctr τ) := tabG [(7, (⟨i7, o7, c7⟩ : Ctr τ)), (12, (⟨i12, o12, c12⟩ : Ctr τ)), (14, (⟨i14, o14, c14⟩ : Ctr τ))]
abbrev LA5_0 : Type := (Int × Int × (List T2) × ((Int × Int) × ((Int × Int) × ((Int × Int) × Unit))) × Int × Bool × Int × Unit)
abbrev LB5_0 : Type := (Unit) ⊕ (Bool × Unit)
def li5_0 : Fr τ LA5_0 := (.val 1 (.int .i64) (.val 2 (.int .i64) (.val 3 (.sl 2) (.ptr 4 none 26 (.val (.pair (.int .i64) (.int .u64)) (.val (.pair (.int .i64) (.int .u64)) (.val (.pair (.int .i64) (.int .u64)) .nil))) (.val 9 (.int .i64) (.val 11 .bool (.val 12 (.int .i64) .nil)))))))
def lo5_0 : Ot τ LB5_0 := .alt (.exit 0) .nil (.one .ret (.val 8 .bool .nil))
def Q5_0 (c7 : A7 → Option B7) (c12 : A12 → Option B12) (c14 : A14 → Option B14) : LA5_0 → Option (LA5_0 ⊕ LB5_0) := fun ⟨size', ⟨q', ⟨list', ⟨⟨⟨l'_0, l'_1⟩, ⟨⟨l'_2, l'_3⟩, ⟨⟨l'_4, l'_5⟩, ()⟩⟩⟩, ⟨at', ⟨was', ⟨i', ()⟩⟩⟩⟩⟩⟩⟩ => (let v0 : Int := ↑(List.length list'); bif decide (i' < v0) then (bif decide (i' < 256) then ((bif decide (0 ≤ i') then list'[Int.toNat i']? else none).bind fun y2 => (bif decide (y2 < 0) then (let v1 : Int := at' - q'; let v2 : Int := IntKind.wrap IntKind.i64 v1; (bif !v2 == 0 then some () else none).bind fun () => (let v3 : Int := y2 + 1; let v4 : Int := IntKind.wrap IntKind.i64 v3; let v5 : Int := 0 - v4; let v6 : Int := IntKind.wrap IntKind.i64 v5; let v7 : Int := Int.tmod v6 v2; let v8 : Int := q' + v7; let v9 : Int := IntKind.wrap IntKind.i64 v8; (c14 (((l'_0, l'_1), ((l'_2, l'_3), (l'_4, l'_5))), (size', (v9, ())))).bind fun ⟨y5, ()⟩ => (bif !y5 == was' then (some (.inr (.inr (false, ())))) else (let v10 : Int := i' + 1; let v11 : Int := IntKind.wrap IntKind.i64 v10; some (.inl (size', (q', (list', (((l'_0, l'_1), ((l'_2, l'_3), ((l'_4, l'_5), ()))), (at', (was', (v11, ())))))))))))) else (let v1 : Int := at' - q'; let v2 : Int := IntKind.wrap IntKind.i64 v1; (bif !v2 == 0 then some () else none).bind fun () => (let v3 : Int := Int.tmod y2 v2; let v4 : Int := q' + v3; let v5 : Int := IntKind.wrap IntKind.i64 v4; (c14 (((l'_0, l'_1), ((l'_2, l'_3), (l'_4, l'_5))), (size', (v5, ())))).bind fun ⟨y5, ()⟩ => (bif !y5 == was' then (some (.inr (.inr (false, ())))) else (let v6 : Int := i' + 1; let v7 : Int := IntKind.wrap IntKind.i64 v6; some (.inl (size', (q', (list', (((l'_0, l'_1), ((l'_2, l'_3), ((l'_4, l'_5), ()))), (at', (was', (v7, ())))))))))))))) else (some (.inr (.inl ())))) else (some (.inr (.inl ()))))
def R5_0 : LA5_0 → Option (LA5_0 ⊕ LB5_0) := Q5_0 N7 N12 N14
def L5_0 : Lc τ := ⟨li5_0, itrs R5_0, lo5_0⟩
def M5 (c7 : A7 → Option B7) (c12 : A12 → Option B12) (c14 : A14 → Option B14) (l5_0 : LA5_0 → Option LB5_0) : A5 → Option B5 := fun ⟨⟨⟨l'_0, l'_1⟩, ⟨⟨l'_2, l'_3⟩, ⟨l'_4, l'_5⟩⟩⟩, ⟨size', ⟨q', ⟨list', ()⟩⟩⟩⟩ => ((c7 ()).bind fun ⟨y0, ()⟩ => (bif !y0 then (some (false, ())) else ((c12 (((l'_0, l'_1), ((l'_2, l'_3), (l'_4, l'_5))), (size', (q', ())))).bind fun ⟨y2_0, ⟨y2_1, ()⟩⟩ => (bif y2_1 != 0 then (some (y2_0 == 0, ())) else ((c14 (((l'_0, l'_1), ((l'_2, l'_3), (l'_4, l'_5))), (size', (q', ())))).bind fun ⟨y4, ()⟩ => (bif decide (y2_0 ≤ q') then (some (false, ())) else (bif decide (y2_0 > 1099511627777) then (some (false, ())) else (bif decide (y2_0 ≤ 1099511627776) then ((c14 (((l'_0, l'_1), ((l'_2, l'_3), (l'_4, l'_5))), (size', (y2_0, ())))).bind fun ⟨y8, ()⟩ => (bif y8 == y4 then (some (false, ())) else (let v0 : Int := y2_0 - 1; let v1 : Int := IntKind.wrap IntKind.i64 v0; (c14 (((l'_0, l'_1), ((l'_2, l'_3), (l'_4, l'_5))), (size', (v1, ())))).bind fun ⟨y10, ()⟩ => (bif !y10 == y4 then (some (false, ())) else ((l5_0 (size', (q', (list', (((l'_0, l'_1), ((l'_2, l'_3), ((l'_4, l'_5), ()))), (y2_0, (y4, (0, ())))))))).bind fun y12 => (match y12 with | .inl () => (some (true, ())) | .inr ⟨y13, ()⟩ => (some (y13, ())))))))) else (let v0 : Int := y2_0 - 1; let v1 : Int := IntKind.wrap IntKind.i64 v0; (c14 (((l'_0, l'_1), ((l'_2, l'_3), (l'_4, l'_5))), (size', (v1, ())))).bind fun ⟨y8, ()⟩ => (bif !y8 == y4 then (some (false, ())) else ((l5_0 (size', (q', (list', (((l'_0, l'_1), ((l'_2, l'_3), ((l'_4, l'_5), ()))), (y2_0, (y4, (0, ())))))))).bind fun y10 => (match y10 with | .inl () => (some (true, ())) | .inr ⟨y11, ()⟩ => (some (y11, ()))))))))))))))
def N5 : A5 → Option B5 := M5 N7 N12 N14 (itrs R5_0)
def C5 : Ctr τ := ⟨i5, o5, N5⟩
theorem g5 : GOK κ Try.prog (G5 N7 N12 N14) := (gok_cons s7 (gok_cons s12 (gok_cons s14 gok_nil)))
theorem le5_0 : ∀ (c7 : A7 → Option B7) (c12 : A12 → Option B12) (c14 : A14 → Option B14) x, Q5_0 c7 c12 c14 x = run Try.prog κ (G5 c7 c12 c14) (tabL []) 0 (loopAt Try.f5 0) (li5_0.build x) (rnd li5_0 lo5_0) := fun c7 c12 c14 x => by kernel_rfl
theorem linner5_0 : ∀ Z : Zn, Z.rl = [] → 90 ≤ Z.nt → ∀ p ∈ loops 0 (loopAt Try.f5 0), ∀ C, (tabL []) p.1 = some C → LoopOK κ Try.prog Z p.2 C := fun Z h n => fun p hp => (by cases (show p ∈ ([] : List (Nat × Code)) from hp))
theorem lk5_0 : ∀ Z : Zn, Z.rl = [] → 90 ≤ Z.nt → LoopOK κ Try.prog Z (loopAt Try.f5 0) L5_0 := fun Z h n => loop_ok (S := (tabL [])) R5_0 (by kernel_rfl) g5 (by rw [h]; exact dsts_mono n _ (by kernel_rfl)) (linner5_0 Z h n) (by kernel_rfl) (by kernel_rfl) (le5_0 N7 N12 N14) itrs_rounds
theorem lall5 : ∀ Z : Zn, Z.rl = C5.o.keeps → Try.f5.ntmps ≤ Z.nt → ∀ p ∈ loops 0 (bodyOf Try.f5), ∀ C, (tabL [(0, L5_0)]) p.1 = some C → LoopOK κ Try.prog Z p.2 C := fun Z h n => all_loops [(0, loopAt Try.f5 0)] (by kernel_rfl) (all_cons (fun C hC => (Option.some.inj hC : L5_0 = C) ▸ lk5_0 Z h n) (fun _ h => by cases h))
theorem e5 : ∀ (c7 : A7 → Option B7) (c12 : A12 → Option B12) (c14 : A14 → Option B14) (l5_0 : LA5_0 → Option LB5_0) x, M5 c7 c12 c14 l5_0 x = fnE Try.prog κ (G5 c7 c12 c14) (tabL [(0, (⟨li5_0, l5_0, lo5_0⟩ : Lc τ))]) Try.f5 i5 o5 x := fun c7 c12 c14 l5_0 x => by kernel_rfl
theorem s5 : Sound κ Try.prog C5 5 := fn_sound (S := (tabL [(0, L5_0)])) (F := Try.f5) (code := bodyOf Try.f5) (by kernel_rfl) g5 Try.func5 (by kernel_rfl) (by kernel_rfl) (by kernel_rfl) lall5 (by kernel_rfl) (by kernel_rfl) fun x y h => (e5 N7 N12 N14 (itrs R5_0) x).symm.trans h
end Go.Proofs.Ytgdnleanagclaaa.E
namespace Go.Proofs.Ytgdnleanagclaaa.E
open Go
set_option linter.unusedVariables false
set_option maxRecDepth 100000
abbrev A45 : Type := ((Int × Int) × (Int × Int) × (Int × Int) × Int × Int × Int × Unit)
abbrev B45 : Type := (((Int × Int) × ((Int × Int) × (Int × Int))) × Int × Unit)
def i45 : Fr τ A45 := (.val 0 (.pair (.int .i64) (.int .u64)) (.val 1 (.pair (.int .i64) (.int .u64)) (.val 2 (.pair (.int .i64) (.int .u64)) (.val 3 (.int .i64) (.val 4 (.int .i64) (.val 5 (.int .i64) .nil))))))
def o45 : Fr τ B45 := (.val 1000 (.pair (.pair (.int .i64) (.int .u64)) (.pair (.pair (.int .i64) (.int .u64)) (.pair (.int .i64) (.int .u64)))) (.val 1001 (.int .i64) .nil))
def G45 : Nat → Option (Ctr τ) := tabG []
def M45 : A45 → Option B45 := fun ⟨⟨a'_0, a'_1⟩, ⟨⟨b'_0, b'_1⟩, ⟨⟨c'_0, c'_1⟩, ⟨e', ⟨f', ⟨g', ()⟩⟩⟩⟩⟩⟩ => (bif e' != 0 then (some (((0, 0), ((0, 0), (0, 0))), (10, ()))) else (bif f' != 0 then (some (((0, 0), ((0, 0), (0, 0))), (10, ()))) else (bif g' != 0 then (some (((0, 0), ((0, 0), (0, 0))), (10, ()))) else (some (((a'_0, a'_1), ((b'_0, b'_1), (c'_0, c'_1))), (0, ()))))))
def N45 : A45 → Option B45 := M45
def C45 : Ctr τ := ⟨i45, o45, N45⟩
theorem g45 : GOK κ Try.prog (G45) := gok_nil
theorem lall45 : ∀ Z : Zn, Z.rl = C45.o.keeps → Try.f45.ntmps ≤ Z.nt → ∀ p ∈ loops 0 (bodyOf Try.f45), ∀ C, (tabL []) p.1 = some C → LoopOK κ Try.prog Z p.2 C := fun Z h n => fun p hp => (by cases (show p ∈ ([] : List (Nat × Code)) from hp))
theorem e45 : ∀ x, M45 x = fnE Try.prog κ (G45) (tabL []) Try.f45 i45 o45 x := fun x => by kernel_rfl
theorem s45 : Sound κ Try.prog C45 45 := fn_sound (S := (tabL [])) (F := Try.f45) (code := bodyOf Try.f45) (by kernel_rfl) g45 Try.func45 (by kernel_rfl) (by kernel_rfl) (by kernel_rfl) lall45 (by kernel_rfl) (by kernel_rfl) fun x y h => (e45 x).symm.trans h
end Go.Proofs.Ytgdnleanagclaaa.E
namespace Go.Proofs.Ytgdnleanagclaaa.E
open Go
set_option linter.unusedVariables false
set_option maxRecDepth 100000
abbrev A15 : Type := (((Int × Int) × ((Int × Int) × (Int × Int))) × ((Int × Int) × ((Int × Int) × (Int × Int))) × Unit)
abbrev B15 : Type := (((Int × Int) × ((Int × Int) × (Int × Int))) × Int × Unit)
def i15 : Fr τ A15 := (.val 0 (.pair (.pair (.int .i64) (.int .u64)) (.pair (.pair (.int .i64) (.int .u64)) (.pair (.int .i64) (.int .u64)))) (.val 1 (.pair (.pair (.int .i64) (.int .u64)) (.pair (.pair (.int .i64) (.int .u64)) (.pair (.int .i64) (.int .u64)))) .nil))
def o15 : Fr τ B15 := (.val 1000 (.pair (.pair (.int .i64) (.int .u64)) (.pair (.pair (.int .i64) (.int .u64)) (.pair (.int .i64) (.int .u64)))) (.val 1001 (.int .i64) .nil))
def G15 (c29 : A29 → Option B29) (c45 : A45 → Option B45) : Nat → Option (Ctr τ) := tabG [(29, (⟨i29, o29, c29⟩ : Ctr τ)), (45, (⟨i45, o45, c45⟩ : Ctr τ))]
def M15 (c29 : A29 → Option B29) (c45 : A45 → Option B45) : A15 → Option B15 := fun ⟨⟨⟨l'_0, l'_1⟩, ⟨⟨l'_2, l'_3⟩, ⟨l'_4, l'_5⟩⟩⟩, ⟨⟨⟨m'_0, m'_1⟩, ⟨⟨m'_2, m'_3⟩, ⟨m'_4, m'_5⟩⟩⟩, ()⟩⟩ => ((c29 ((l'_0, l'_1), ((m'_0, m'_1), ()))).bind fun ⟨⟨y0_0, y0_1⟩, ⟨y0_2, ()⟩⟩ => ((c29 ((l'_2, l'_3), ((m'_2, m'_3), ()))).bind fun ⟨⟨y1_0, y1_1⟩, ⟨y1_2, ()⟩⟩ => ((c29 ((l'_4, l'_5), ((m'_4, m'_5), ()))).bind fun ⟨⟨y2_0, y2_1⟩, ⟨y2_2, ()⟩⟩ => ((c45 ((y0_0, y0_1), ((y1_0, y1_1), ((y2_0, y2_1), (y0_2, (y1_2, (y2_2, ()))))))).bind fun ⟨⟨⟨y3_0, y3_1⟩, ⟨⟨y3_2, y3_3⟩, ⟨y3_4, y3_5⟩⟩⟩, ⟨y3_6, ()⟩⟩ => (some (((y3_0, y3_1), ((y3_2, y3_3), (y3_4, y3_5))), (y3_6, ())))))))
def N15 : A15 → Option B15 := M15 N29 N45
def C15 : Ctr τ := ⟨i15, o15, N15⟩
theorem g15 : GOK κ Try.prog (G15 N29 N45) := (gok_cons s29 (gok_cons s45 gok_nil))
theorem lall15 : ∀ Z : Zn, Z.rl = C15.o.keeps → Try.f15.ntmps ≤ Z.nt → ∀ p ∈ loops 0 (bodyOf Try.f15), ∀ C, (tabL []) p.1 = some C → LoopOK κ Try.prog Z p.2 C := fun Z h n => fun p hp => (by cases (show p ∈ ([] : List (Nat × Code)) from hp))
theorem e15 : ∀ (c29 : A29 → Option B29) (c45 : A45 → Option B45) x, M15 c29 c45 x = fnE Try.prog κ (G15 c29 c45) (tabL []) Try.f15 i15 o15 x := fun c29 c45 x => by kernel_rfl
theorem s15 : Sound κ Try.prog C15 15 := fn_sound (S := (tabL [])) (F := Try.f15) (code := bodyOf Try.f15) (by kernel_rfl) g15 Try.func15 (by kernel_rfl) (by kernel_rfl) (by kernel_rfl) lall15 (by kernel_rfl) (by kernel_rfl) fun x y h => (e15 N29 N45 x).symm.trans h
end Go.Proofs.Ytgdnleanagclaaa.E
namespace Go.Proofs.Ytgdnleanagclaaa.E
open Go
set_option linter.unusedVariables false
set_option maxRecDepth 100000
abbrev A46 : Type := ((Int × Int) × (Int × Int) × (Int × Int) × Bool × Unit)
abbrev B46 : Type := (((Int × Int) × ((Int × Int) × (Int × Int))) × Int × Unit)
def i46 : Fr τ A46 := (.val 0 (.pair (.int .i64) (.int .u64)) (.val 1 (.pair (.int .i64) (.int .u64)) (.val 2 (.pair (.int .i64) (.int .u64)) (.val 3 .bool .nil))))
def o46 : Fr τ B46 := (.val 1000 (.pair (.pair (.int .i64) (.int .u64)) (.pair (.pair (.int .i64) (.int .u64)) (.pair (.int .i64) (.int .u64)))) (.val 1001 (.int .i64) .nil))
def G46 : Nat → Option (Ctr τ) := tabG []
def M46 : A46 → Option B46 := fun ⟨⟨a'_0, a'_1⟩, ⟨⟨b'_0, b'_1⟩, ⟨⟨c'_0, c'_1⟩, ⟨bad', ()⟩⟩⟩⟩ => (bif bad' then (some (((0, 0), ((0, 0), (0, 0))), (10, ()))) else (some (((a'_0, a'_1), ((b'_0, b'_1), (c'_0, c'_1))), (0, ()))))
def N46 : A46 → Option B46 := M46
def C46 : Ctr τ := ⟨i46, o46, N46⟩
theorem g46 : GOK κ Try.prog (G46) := gok_nil
theorem lall46 : ∀ Z : Zn, Z.rl = C46.o.keeps → Try.f46.ntmps ≤ Z.nt → ∀ p ∈ loops 0 (bodyOf Try.f46), ∀ C, (tabL []) p.1 = some C → LoopOK κ Try.prog Z p.2 C := fun Z h n => fun p hp => (by cases (show p ∈ ([] : List (Nat × Code)) from hp))
theorem e46 : ∀ x, M46 x = fnE Try.prog κ (G46) (tabL []) Try.f46 i46 o46 x := fun x => by kernel_rfl
theorem s46 : Sound κ Try.prog C46 46 := fn_sound (S := (tabL [])) (F := Try.f46) (code := bodyOf Try.f46) (by kernel_rfl) g46 Try.func46 (by kernel_rfl) (by kernel_rfl) (by kernel_rfl) lall46 (by kernel_rfl) (by kernel_rfl) fun x y h => (e46 x).symm.trans h
end Go.Proofs.Ytgdnleanagclaaa.E
namespace Go.Proofs.Ytgdnleanagclaaa.E
open Go
set_option linter.unusedVariables false
set_option maxRecDepth 100000
abbrev A16 : Type := (((Int × Int) × ((Int × Int) × (Int × Int))) × ((Int × Int) × ((Int × Int) × (Int × Int))) × Unit)
abbrev B16 : Type := (((Int × Int) × ((Int × Int) × (Int × Int))) × Int × Unit)
def i16 : Fr τ A16 := (.val 0 (.pair (.pair (.int .i64) (.int .u64)) (.pair (.pair (.int .i64) (.int .u64)) (.pair (.int .i64) (.int .u64)))) (.val 1 (.pair (.pair (.int .i64) (.int .u64)) (.pair (.pair (.int .i64) (.int .u64)) (.pair (.int .i64) (.int .u64)))) .nil))
def o16 : Fr τ B16 := (.val 1000 (.pair (.pair (.int .i64) (.int .u64)) (.pair (.pair (.int .i64) (.int .u64)) (.pair (.int .i64) (.int .u64)))) (.val 1001 (.int .i64) .nil))
def G16 (c33 : A33 → Option B33) (c46 : A46 → Option B46) : Nat → Option (Ctr τ) := tabG [(33, (⟨i33, o33, c33⟩ : Ctr τ)), (46, (⟨i46, o46, c46⟩ : Ctr τ))]
def M16 (c33 : A33 → Option B33) (c46 : A46 → Option B46) : A16 → Option B16 := fun ⟨⟨⟨l'_0, l'_1⟩, ⟨⟨l'_2, l'_3⟩, ⟨l'_4, l'_5⟩⟩⟩, ⟨⟨⟨m'_0, m'_1⟩, ⟨⟨m'_2, m'_3⟩, ⟨m'_4, m'_5⟩⟩⟩, ()⟩⟩ => ((c33 ((l'_0, l'_1), ((m'_0, m'_1), ()))).bind fun ⟨⟨y0_0, y0_1⟩, ⟨y0_2, ()⟩⟩ => ((c33 ((l'_2, l'_3), ((m'_2, m'_3), ()))).bind fun ⟨⟨y1_0, y1_1⟩, ⟨y1_2, ()⟩⟩ => ((c33 ((l'_4, l'_5), ((m'_4, m'_5), ()))).bind fun ⟨⟨y2_0, y2_1⟩, ⟨y2_2, ()⟩⟩ => (bif y0_2 != 0 then ((c46 ((y0_0, y0_1), ((y1_0, y1_1), ((y2_0, y2_1), (true, ()))))).bind fun ⟨⟨⟨y4_0, y4_1⟩, ⟨⟨y4_2, y4_3⟩, ⟨y4_4, y4_5⟩⟩⟩, ⟨y4_6, ()⟩⟩ => (some (((y4_0, y4_1), ((y4_2, y4_3), (y4_4, y4_5))), (y4_6, ())))) else (bif y1_2 != 0 then ((c46 ((y0_0, y0_1), ((y1_0, y1_1), ((y2_0, y2_1), (true, ()))))).bind fun ⟨⟨⟨y5_0, y5_1⟩, ⟨⟨y5_2, y5_3⟩, ⟨y5_4, y5_5⟩⟩⟩, ⟨y5_6, ()⟩⟩ => (some (((y5_0, y5_1), ((y5_2, y5_3), (y5_4, y5_5))), (y5_6, ())))) else ((c46 ((y0_0, y0_1), ((y1_0, y1_1), ((y2_0, y2_1), (y2_2 != 0, ()))))).bind fun ⟨⟨⟨y5_0, y5_1⟩, ⟨⟨y5_2, y5_3⟩, ⟨y5_4, y5_5⟩⟩⟩, ⟨y5_6, ()⟩⟩ => (some (((y5_0, y5_1), ((y5_2, y5_3), (y5_4, y5_5))), (y5_6, ())))))))))
def N16 : A16 → Option B16 := M16 N33 N46
def C16 : Ctr τ := ⟨i16, o16, N16⟩
theorem g16 : GOK κ Try.prog (G16 N33 N46) := (gok_cons s33 (gok_cons s46 gok_nil))
theorem lall16 : ∀ Z : Zn, Z.rl = C16.o.keeps → Try.f16.ntmps ≤ Z.nt → ∀ p ∈ loops 0 (bodyOf Try.f16), ∀ C, (tabL []) p.1 = some C → LoopOK κ Try.prog Z p.2 C := fun Z h n => fun p hp => (by cases (show p ∈ ([] : List (Nat × Code)) from hp))
theorem e16 : ∀ (c33 : A33 → Option B33) (c46 : A46 → Option B46) x, M16 c33 c46 x = fnE Try.prog κ (G16 c33 c46) (tabL []) Try.f16 i16 o16 x := fun c33 c46 x => by kernel_rfl
theorem s16 : Sound κ Try.prog C16 16 := fn_sound (S := (tabL [])) (F := Try.f16) (code := bodyOf Try.f16) (by kernel_rfl) g16 Try.func16 (by kernel_rfl) (by kernel_rfl) (by kernel_rfl) lall16 (by kernel_rfl) (by kernel_rfl) fun x y h => (e16 N33 N46 x).symm.trans h
end Go.Proofs.Ytgdnleanagclaaa.E
namespace Go.Proofs.Ytgdnleanagclaaa.E
open Go
set_option linter.unusedVariables false
set_option maxRecDepth 100000
abbrev A17 : Type := (((Int × Int) × ((Int × Int) × (Int × Int))) × ((Int × Int) × ((Int × Int) × (Int × Int))) × Unit)
abbrev B17 : Type := (((Int × Int) × ((Int × Int) × (Int × Int))) × Int × Unit)
def i17 : Fr τ A17 := (.val 0 (.pair (.pair (.int .i64) (.int .u64)) (.pair (.pair (.int .i64) (.int .u64)) (.pair (.int .i64) (.int .u64)))) (.val 1 (.pair (.pair (.int .i64) (.int .u64)) (.pair (.pair (.int .i64) (.int .u64)) (.pair (.int .i64) (.int .u64)))) .nil))
def o17 : Fr τ B17 := (.val 1000 (.pair (.pair (.int .i64) (.int .u64)) (.pair (.pair (.int .i64) (.int .u64)) (.pair (.int .i64) (.int .u64)))) (.val 1001 (.int .i64) .nil))
def G17 (c47 : A47 → Option B47) (c45 : A45 → Option B45) : Nat → Option (Ctr τ) := tabG [(47, (⟨i47, o47, c47⟩ : Ctr τ)), (45, (⟨i45, o45, c45⟩ : Ctr τ))]
def M17 (c47 : A47 → Option B47) (c45 : A45 → Option B45) : A17 → Option B17 := fun ⟨⟨⟨l'_0, l'_1⟩, ⟨⟨l'_2, l'_3⟩, ⟨l'_4, l'_5⟩⟩⟩, ⟨⟨⟨m'_0, m'_1⟩, ⟨⟨m'_2, m'_3⟩, ⟨m'_4, m'_5⟩⟩⟩, ()⟩⟩ => ((c47 ((l'_0, l'_1), ((m'_0, m'_1), ()))).bind fun ⟨⟨y0_0, y0_1⟩, ⟨y0_2, ()⟩⟩ => ((c47 ((l'_2, l'_3), ((m'_2, m'_3), ()))).bind fun ⟨⟨y1_0, y1_1⟩, ⟨y1_2, ()⟩⟩ => ((c47 ((l'_4, l'_5), ((m'_4, m'_5), ()))).bind fun ⟨⟨y2_0, y2_1⟩, ⟨y2_2, ()⟩⟩ => ((c45 ((y0_0, y0_1), ((y1_0, y1_1), ((y2_0, y2_1), (y0_2, (y1_2, (y2_2, ()))))))).bind fun ⟨⟨⟨y3_0, y3_1⟩, ⟨⟨y3_2, y3_3⟩, ⟨y3_4, y3_5⟩⟩⟩, ⟨y3_6, ()⟩⟩ => (some (((y3_0, y3_1), ((y3_2, y3_3), (y3_4, y3_5))), (y3_6, ())))))))
def N17 : A17 → Option B17 := M17 N47 N45
def C17 : Ctr τ := ⟨i17, o17, N17⟩
theorem g17 : GOK κ Try.prog (G17 N47 N45) := (gok_cons s47 (gok_cons s45 gok_nil))
theorem lall17 : ∀ Z : Zn, Z.rl = C17.o.keeps → Try.f17.ntmps ≤ Z.nt → ∀ p ∈ loops 0 (bodyOf Try.f17), ∀ C, (tabL []) p.1 = some C → LoopOK κ Try.prog Z p.2 C := fun Z h n => fun p hp => (by cases (show p ∈ ([] : List (Nat × Code)) from hp))
theorem e17 : ∀ (c47 : A47 → Option B47) (c45 : A45 → Option B45) x, M17 c47 c45 x = fnE Try.prog κ (G17 c47 c45) (tabL []) Try.f17 i17 o17 x := fun c47 c45 x => by kernel_rfl
theorem s17 : Sound κ Try.prog C17 17 := fn_sound (S := (tabL [])) (F := Try.f17) (code := bodyOf Try.f17) (by kernel_rfl) g17 Try.func17 (by kernel_rfl) (by kernel_rfl) (by kernel_rfl) lall17 (by kernel_rfl) (by kernel_rfl) fun x y h => (e17 N47 N45 x).symm.trans h
end Go.Proofs.Ytgdnleanagclaaa.E
namespace Go.Proofs.Ytgdnleanagclaaa.E
open Go
set_option linter.unusedVariables false
set_option maxRecDepth 100000
abbrev A48 : Type := ((Int × Int) × (Int × Int) × Unit)
abbrev B48 : Type := ((Int × Int) × Int × Unit)
def i48 : Fr τ A48 := (.val 0 (.pair (.int .i64) (.int .u64)) (.val 1 (.pair (.int .i64) (.int .u64)) .nil))
def o48 : Fr τ B48 := (.val 1000 (.pair (.int .i64) (.int .u64)) (.val 1001 (.int .i64) .nil))
def G48 (c61 : A61 → Option B61) (c63 : A63 → Option B63) (c60 : A60 → Option B60) (c59 : A59 → Option B59) : Nat → Option (Ctr τ) := tabG [(61, (⟨i61, o61, c61⟩ : Ctr τ)), (63, (⟨i63, o63, c63⟩ : Ctr τ)), (60, (⟨i60, o60, c60⟩ : Ctr τ)), (59, (⟨i59, o59, c59⟩ : Ctr τ))]
def M48 (c61 : A61 → Option B61) (c63 : A63 → Option B63) (c60 : A60 → Option B60) (c59 : A59 → Option B59) : A48 → Option B48 := fun ⟨⟨a'_0, a'_1⟩, ⟨⟨b'_0, b'_1⟩, ()⟩⟩ => ((c61 ((a'_0, a'_1), ())).bind fun ⟨y0, ()⟩ => ((c61 ((b'_0, b'_1), ())).bind fun ⟨y1, ()⟩ => ((c63 (y1, ())).bind fun ⟨y2, ()⟩ => ((c60 (y0, (y2, ()))).bind fun ⟨y3, ()⟩ => ((c59 (y3, ())).bind fun ⟨⟨y4_0, y4_1⟩, ⟨y4_2, ()⟩⟩ => (some ((y4_0, y4_1), (y4_2, ()))))))))
def N48 : A48 → Option B48 := M48 N61 N63 N60 N59
def C48 : Ctr τ := ⟨i48, o48, N48⟩
theorem g48 : GOK κ Try.prog (G48 N61 N63 N60 N59) := (gok_cons s61 (gok_cons s63 (gok_cons s60 (gok_cons s59 gok_nil))))
theorem lall48 : ∀ Z : Zn, Z.rl = C48.o.keeps → Try.f48.ntmps ≤ Z.nt → ∀ p ∈ loops 0 (bodyOf Try.f48), ∀ C, (tabL []) p.1 = some C → LoopOK κ Try.prog Z p.2 C := fun Z h n => fun p hp => (by cases (show p ∈ ([] : List (Nat × Code)) from hp))
theorem e48 : ∀ (c61 : A61 → Option B61) (c63 : A63 → Option B63) (c60 : A60 → Option B60) (c59 : A59 → Option B59) x, M48 c61 c63 c60 c59 x = fnE Try.prog κ (G48 c61 c63 c60 c59) (tabL []) Try.f48 i48 o48 x := fun c61 c63 c60 c59 x => by kernel_rfl
theorem s48 : Sound κ Try.prog C48 48 := fn_sound (S := (tabL [])) (F := Try.f48) (code := bodyOf Try.f48) (by kernel_rfl) g48 Try.func48 (by kernel_rfl) (by kernel_rfl) (by kernel_rfl) lall48 (by kernel_rfl) (by kernel_rfl) fun x y h => (e48 N61 N63 N60 N59 x).symm.trans h
end Go.Proofs.Ytgdnleanagclaaa.E
namespace Go.Proofs.Ytgdnleanagclaaa.E
open Go
set_option linter.unusedVariables false
set_option maxRecDepth 100000
abbrev A18 : Type := (((Int × Int) × ((Int × Int) × (Int × Int))) × ((Int × Int) × ((Int × Int) × (Int × Int))) × Unit)
abbrev B18 : Type := (((Int × Int) × ((Int × Int) × (Int × Int))) × Int × Unit)
def i18 : Fr τ A18 := (.val 0 (.pair (.pair (.int .i64) (.int .u64)) (.pair (.pair (.int .i64) (.int .u64)) (.pair (.int .i64) (.int .u64)))) (.val 1 (.pair (.pair (.int .i64) (.int .u64)) (.pair (.pair (.int .i64) (.int .u64)) (.pair (.int .i64) (.int .u64)))) .nil))
def o18 : Fr τ B18 := (.val 1000 (.pair (.pair (.int .i64) (.int .u64)) (.pair (.pair (.int .i64) (.int .u64)) (.pair (.int .i64) (.int .u64)))) (.val 1001 (.int .i64) .nil))
def G18 (c48 : A48 → Option B48) (c46 : A46 → Option B46) : Nat → Option (Ctr τ) := tabG [(48, (⟨i48, o48, c48⟩ : Ctr τ)), (46, (⟨i46, o46, c46⟩ : Ctr τ))]
def M18 (c48 : A48 → Option B48) (c46 : A46 → Option B46) : A18 → Option B18 := fun ⟨⟨⟨l'_0, l'_1⟩, ⟨⟨l'_2, l'_3⟩, ⟨l'_4, l'_5⟩⟩⟩, ⟨⟨⟨m'_0, m'_1⟩, ⟨⟨m'_2, m'_3⟩, ⟨m'_4, m'_5⟩⟩⟩, ()⟩⟩ => ((c48 ((l'_0, l'_1), ((m'_0, m'_1), ()))).bind fun ⟨⟨y0_0, y0_1⟩, ⟨y0_2, ()⟩⟩ => ((c48 ((l'_2, l'_3), ((m'_2, m'_3), ()))).bind fun ⟨⟨y1_0, y1_1⟩, ⟨y1_2, ()⟩⟩ => ((c48 ((l'_4, l'_5), ((m'_4, m'_5), ()))).bind fun ⟨⟨y2_0, y2_1⟩, ⟨y2_2, ()⟩⟩ => (bif y0_2 != 0 then ((c46 ((y0_0, y0_1), ((y1_0, y1_1), ((y2_0, y2_1), (true, ()))))).bind fun ⟨⟨⟨y4_0, y4_1⟩, ⟨⟨y4_2, y4_3⟩, ⟨y4_4, y4_5⟩⟩⟩, ⟨y4_6, ()⟩⟩ => (some (((y4_0, y4_1), ((y4_2, y4_3), (y4_4, y4_5))), (y4_6, ())))) else (bif y1_2 != 0 then ((c46 ((y0_0, y0_1), ((y1_0, y1_1), ((y2_0, y2_1), (true, ()))))).bind fun ⟨⟨⟨y5_0, y5_1⟩, ⟨⟨y5_2, y5_3⟩, ⟨y5_4, y5_5⟩⟩⟩, ⟨y5_6, ()⟩⟩ => (some (((y5_0, y5_1), ((y5_2, y5_3), (y5_4, y5_5))), (y5_6, ())))) else ((c46 ((y0_0, y0_1), ((y1_0, y1_1), ((y2_0, y2_1), (y2_2 != 0, ()))))).bind fun ⟨⟨⟨y5_0, y5_1⟩, ⟨⟨y5_2, y5_3⟩, ⟨y5_4, y5_5⟩⟩⟩, ⟨y5_6, ()⟩⟩ => (some (((y5_0, y5_1), ((y5_2, y5_3), (y5_4, y5_5))), (y5_6, ())))))))))
def N18 : A18 → Option B18 := M18 N48 N46
def C18 : Ctr τ := ⟨i18, o18, N18⟩
theorem g18 : GOK κ Try.prog (G18 N48 N46) := (gok_cons s48 (gok_cons s46 gok_nil))
theorem lall18 : ∀ Z : Zn, Z.rl = C18.o.keeps → Try.f18.ntmps ≤ Z.nt → ∀ p ∈ loops 0 (bodyOf Try.f18), ∀ C, (tabL []) p.1 = some C → LoopOK κ Try.prog Z p.2 C := fun Z h n => fun p hp => (by cases (show p ∈ ([] : List (Nat × Code)) from hp))
theorem e18 : ∀ (c48 : A48 → Option B48) (c46 : A46 → Option B46) x, M18 c48 c46 x = fnE Try.prog κ (G18 c48 c46) (tabL []) Try.f18 i18 o18 x := fun c48 c46 x => by kernel_rfl
theorem s18 : Sound κ Try.prog C18 18 := fn_sound (S := (tabL [])) (F := Try.f18) (code := bodyOf Try.f18) (by kernel_rfl) g18 Try.func18 (by kernel_rfl) (by kernel_rfl) (by kernel_rfl) lall18 (by kernel_rfl) (by kernel_rfl) fun x y h => (e18 N48 N46 x).symm.trans h
end Go.Proofs.Ytgdnleanagclaaa.E
namespace Go.Proofs.Ytgdnleanagclaaa.E
open Go
set_option linter.unusedVariables false
set_option maxRecDepth 100000
abbrev A19 : Type := (((Int × Int) × ((Int × Int) × (Int × Int))) × (Int × Int) × Unit)
abbrev B19 : Type := (((Int × Int) × ((Int × Int) × (Int × Int))) × Int × Unit)
def i19 : Fr τ A19 := (.val 0 (.pair (.pair (.int .i64) (.int .u64)) (.pair (.pair (.int .i64) (.int .u64)) (.pair (.int .i64) (.int .u64)))) (.val 1 (.pair (.int .i64) (.int .u64)) .nil))
def o19 : Fr τ B19 := (.val 1000 (.pair (.pair (.int .i64) (.int .u64)) (.pair (.pair (.int .i64) (.int .u64)) (.pair (.int .i64) (.int .u64)))) (.val 1001 (.int .i64) .nil))
def G19 (c27 : A27 → Option B27) (c45 : A45 → Option B45) : Nat → Option (Ctr τ) := tabG [(27, (⟨i27, o27, c27⟩ : Ctr τ)), (45, (⟨i45, o45, c45⟩ : Ctr τ))]
def M19 (c27 : A27 → Option B27) (c45 : A45 → Option B45) : A19 → Option B19 := fun ⟨⟨⟨l'_0, l'_1⟩, ⟨⟨l'_2, l'_3⟩, ⟨l'_4, l'_5⟩⟩⟩, ⟨⟨k'_0, k'_1⟩, ()⟩⟩ => ((c27 ((l'_0, l'_1), ((k'_0, k'_1), ()))).bind fun ⟨⟨y0_0, y0_1⟩, ⟨y0_2, ()⟩⟩ => ((c27 ((l'_2, l'_3), ((k'_0, k'_1), ()))).bind fun ⟨⟨y1_0, y1_1⟩, ⟨y1_2, ()⟩⟩ => ((c27 ((l'_4, l'_5), ((k'_0, k'_1), ()))).bind fun ⟨⟨y2_0, y2_1⟩, ⟨y2_2, ()⟩⟩ => ((c45 ((y0_0, y0_1), ((y1_0, y1_1), ((y2_0, y2_1), (y0_2, (y1_2, (y2_2, ()))))))).bind fun ⟨⟨⟨y3_0, y3_1⟩, ⟨⟨y3_2, y3_3⟩, ⟨y3_4, y3_5⟩⟩⟩, ⟨y3_6, ()⟩⟩ => (some (((y3_0, y3_1), ((y3_2, y3_3), (y3_4, y3_5))), (y3_6, ())))))))
def N19 : A19 → Option B19 := M19 N27 N45
def C19 : Ctr τ := ⟨i19, o19, N19⟩
theorem g19 : GOK κ Try.prog (G19 N27 N45) := (gok_cons s27 (gok_cons s45 gok_nil))
theorem lall19 : ∀ Z : Zn, Z.rl = C19.o.keeps → Try.f19.ntmps ≤ Z.nt → ∀ p ∈ loops 0 (bodyOf Try.f19), ∀ C, (tabL []) p.1 = some C → LoopOK κ Try.prog Z p.2 C := fun Z h n => fun p hp => (by cases (show p ∈ ([] : List (Nat × Code)) from hp))
theorem e19 : ∀ (c27 : A27 → Option B27) (c45 : A45 → Option B45) x, M19 c27 c45 x = fnE Try.prog κ (G19 c27 c45) (tabL []) Try.f19 i19 o19 x := fun c27 c45 x => by kernel_rfl
theorem s19 : Sound κ Try.prog C19 19 := fn_sound (S := (tabL [])) (F := Try.f19) (code := bodyOf Try.f19) (by kernel_rfl) g19 Try.func19 (by kernel_rfl) (by kernel_rfl) (by kernel_rfl) lall19 (by kernel_rfl) (by kernel_rfl) fun x y h => (e19 N27 N45 x).symm.trans h
end Go.Proofs.Ytgdnleanagclaaa.E
namespace Go.Proofs.Ytgdnleanagclaaa.E
open Go
set_option linter.unusedVariables false
set_option maxRecDepth 100000
abbrev A20 : Type := (((Int × Int) × ((Int × Int) × (Int × Int))) × (Int × Int) × Unit)
abbrev B20 : Type := (((Int × Int) × ((Int × Int) × (Int × Int))) × Int × Unit)
def i20 : Fr τ A20 := (.val 0 (.pair (.pair (.int .i64) (.int .u64)) (.pair (.pair (.int .i64) (.int .u64)) (.pair (.int .i64) (.int .u64)))) (.val 1 (.pair (.int .i64) (.int .u64)) .nil))
def o20 : Fr τ B20 := (.val 1000 (.pair (.pair (.int .i64) (.int .u64)) (.pair (.pair (.int .i64) (.int .u64)) (.pair (.int .i64) (.int .u64)))) (.val 1001 (.int .i64) .nil))
def G20 (c30 : A30 → Option B30) (c46 : A46 → Option B46) : Nat → Option (Ctr τ) := tabG [(30, (⟨i30, o30, c30⟩ : Ctr τ)), (46, (⟨i46, o46, c46⟩ : Ctr τ))]
def M20 (c30 : A30 → Option B30) (c46 : A46 → Option B46) : A20 → Option B20 := fun ⟨⟨⟨l'_0, l'_1⟩, ⟨⟨l'_2, l'_3⟩, ⟨l'_4, l'_5⟩⟩⟩, ⟨⟨k'_0, k'_1⟩, ()⟩⟩ => ((c30 ((l'_0, l'_1), ((k'_0, k'_1), ()))).bind fun ⟨⟨y0_0, y0_1⟩, ⟨y0_2, ()⟩⟩ => ((c30 ((l'_2, l'_3), ((k'_0, k'_1), ()))).bind fun ⟨⟨y1_0, y1_1⟩, ⟨y1_2, ()⟩⟩ => ((c30 ((l'_4, l'_5), ((k'_0, k'_1), ()))).bind fun ⟨⟨y2_0, y2_1⟩, ⟨y2_2, ()⟩⟩ => (bif y0_2 != 0 then ((c46 ((y0_0, y0_1), ((y1_0, y1_1), ((y2_0, y2_1), (true, ()))))).bind fun ⟨⟨⟨y4_0, y4_1⟩, ⟨⟨y4_2, y4_3⟩, ⟨y4_4, y4_5⟩⟩⟩, ⟨y4_6, ()⟩⟩ => (some (((y4_0, y4_1), ((y4_2, y4_3), (y4_4, y4_5))), (y4_6, ())))) else (bif y1_2 != 0 then ((c46 ((y0_0, y0_1), ((y1_0, y1_1), ((y2_0, y2_1), (true, ()))))).bind fun ⟨⟨⟨y5_0, y5_1⟩, ⟨⟨y5_2, y5_3⟩, ⟨y5_4, y5_5⟩⟩⟩, ⟨y5_6, ()⟩⟩ => (some (((y5_0, y5_1), ((y5_2, y5_3), (y5_4, y5_5))), (y5_6, ())))) else ((c46 ((y0_0, y0_1), ((y1_0, y1_1), ((y2_0, y2_1), (y2_2 != 0, ()))))).bind fun ⟨⟨⟨y5_0, y5_1⟩, ⟨⟨y5_2, y5_3⟩, ⟨y5_4, y5_5⟩⟩⟩, ⟨y5_6, ()⟩⟩ => (some (((y5_0, y5_1), ((y5_2, y5_3), (y5_4, y5_5))), (y5_6, ())))))))))
def N20 : A20 → Option B20 := M20 N30 N46
def C20 : Ctr τ := ⟨i20, o20, N20⟩
theorem g20 : GOK κ Try.prog (G20 N30 N46) := (gok_cons s30 (gok_cons s46 gok_nil))
theorem lall20 : ∀ Z : Zn, Z.rl = C20.o.keeps → Try.f20.ntmps ≤ Z.nt → ∀ p ∈ loops 0 (bodyOf Try.f20), ∀ C, (tabL []) p.1 = some C → LoopOK κ Try.prog Z p.2 C := fun Z h n => fun p hp => (by cases (show p ∈ ([] : List (Nat × Code)) from hp))
theorem e20 : ∀ (c30 : A30 → Option B30) (c46 : A46 → Option B46) x, M20 c30 c46 x = fnE Try.prog κ (G20 c30 c46) (tabL []) Try.f20 i20 o20 x := fun c30 c46 x => by kernel_rfl
theorem s20 : Sound κ Try.prog C20 20 := fn_sound (S := (tabL [])) (F := Try.f20) (code := bodyOf Try.f20) (by kernel_rfl) g20 Try.func20 (by kernel_rfl) (by kernel_rfl) (by kernel_rfl) lall20 (by kernel_rfl) (by kernel_rfl) fun x y h => (e20 N30 N46 x).symm.trans h
end Go.Proofs.Ytgdnleanagclaaa.E
namespace Go.Proofs.Ytgdnleanagclaaa.E
open Go
set_option linter.unusedVariables false
set_option maxRecDepth 100000
abbrev A6 : Type := (((Int × Int) × ((Int × Int) × (Int × Int))) × ((Int × Int) × ((Int × Int) × (Int × Int))) × (Int × Int) × Unit)
abbrev B6 : Type := (Bool × Unit)
def i6 : Fr τ A6 := (.val 0 (.pair (.pair (.int .i64) (.int .u64)) (.pair (.pair (.int .i64) (.int .u64)) (.pair (.int .i64) (.int .u64)))) (.val 1 (.pair (.pair (.int .i64) (.int .u64)) (.pair (.pair (.int .i64) (.int .u64)) (.pair (.int .i64) (.int .u64)))) (.val 2 (.pair (.int .i64) (.int .u64)) .nil)))
def o6 : Fr τ B6 := (.val 1000 .bool .nil)
def G6 (c7 : A7 → Option B7) (c15 : A15 → Option B15) (c16 : A16 → Option B16) (c17 : A17 → Option B17) (c18 : A18 → Option B18) (c19 : A19 → Option B19) (c20 : A20 → Option B20) : Nat → Option (Ctr τ) := tabG [(7, (⟨i7, o7, c7⟩ : Ctr τ)), (15, (⟨i15, o15, c15⟩ : Ctr τ)), (16, (⟨i16, o16, c16⟩ : Ctr τ)), (17, (⟨i17, o17, c17⟩ : Ctr τ)), (18, (⟨i18, o18, c18⟩ : Ctr τ)), (19, (⟨i19, o19, c19⟩ : Ctr τ)), (20, (⟨i20, o20, c20⟩ : Ctr τ))]
def M6 (c7 : A7 → Option B7) (c15 : A15 → Option B15) (c16 : A16 → Option B16) (c17 : A17 → Option B17) (c18 : A18 → Option B18) (c19 : A19 → Option B19) (c20 : A20 → Option B20) : A6 → Option B6 := fun ⟨⟨⟨l'_0, l'_1⟩, ⟨⟨l'_2, l'_3⟩, ⟨l'_4, l'_5⟩⟩⟩, ⟨⟨⟨m'_0, m'_1⟩, ⟨⟨m'_2, m'_3⟩, ⟨m'_4, m'_5⟩⟩⟩, ⟨⟨k'_0, k'_1⟩, ()⟩⟩⟩ => ((c7 ()).bind fun ⟨y0, ()⟩ => (bif !y0 then (some (false, ())) else ((c15 (((l'_0, l'_1), ((l'_2, l'_3), (l'_4, l'_5))), (((m'_0, m'_1), ((m'_2, m'_3), (m'_4, m'_5))), ()))).bind fun ⟨⟨⟨y2_0, y2_1⟩, ⟨⟨y2_2, y2_3⟩, ⟨y2_4, y2_5⟩⟩⟩, ⟨y2_6, ()⟩⟩ => ((c16 (((l'_0, l'_1), ((l'_2, l'_3), (l'_4, l'_5))), (((m'_0, m'_1), ((m'_2, m'_3), (m'_4, m'_5))), ()))).bind fun ⟨⟨⟨y3_0, y3_1⟩, ⟨⟨y3_2, y3_3⟩, ⟨y3_4, y3_5⟩⟩⟩, ⟨y3_6, ()⟩⟩ => ((c17 (((l'_0, l'_1), ((l'_2, l'_3), (l'_4, l'_5))), (((m'_0, m'_1), ((m'_2, m'_3), (m'_4, m'_5))), ()))).bind fun ⟨⟨⟨y4_0, y4_1⟩, ⟨⟨y4_2, y4_3⟩, ⟨y4_4, y4_5⟩⟩⟩, ⟨y4_6, ()⟩⟩ => ((c18 (((l'_0, l'_1), ((l'_2, l'_3), (l'_4, l'_5))), (((m'_0, m'_1), ((m'_2, m'_3), (m'_4, m'_5))), ()))).bind fun ⟨⟨⟨y5_0, y5_1⟩, ⟨⟨y5_2, y5_3⟩, ⟨y5_4, y5_5⟩⟩⟩, ⟨y5_6, ()⟩⟩ => ((c19 (((l'_0, l'_1), ((l'_2, l'_3), (l'_4, l'_5))), ((k'_0, k'_1), ()))).bind fun ⟨⟨⟨y6_0, y6_1⟩, ⟨⟨y6_2, y6_3⟩, ⟨y6_4, y6_5⟩⟩⟩, ⟨y6_6, ()⟩⟩ => ((c20 (((l'_0, l'_1), ((l'_2, l'_3), (l'_4, l'_5))), ((k'_0, k'_1), ()))).bind fun ⟨⟨⟨y7_0, y7_1⟩, ⟨⟨y7_2, y7_3⟩, ⟨y7_4, y7_5⟩⟩⟩, ⟨y7_6, ()⟩⟩ => (bif y2_0 == y3_0 && y2_1 == y3_1 && (y2_2 == y3_2 && y2_3 == y3_3 && (y2_4 == y3_4 && y2_5 == y3_5)) then (bif y2_6 == y3_6 then (bif y4_0 == y5_0 && y4_1 == y5_1 && (y4_2 == y5_2 && y4_3 == y5_3 && (y4_4 == y5_4 && y4_5 == y5_5)) then (bif y4_6 == y5_6 then (bif y6_0 == y7_0 && y6_1 == y7_1 && (y6_2 == y7_2 && y6_3 == y7_3 && (y6_4 == y7_4 && y6_5 == y7_5)) then (some (y6_6 == y7_6, ())) else (some (false, ()))) else (some (false, ()))) else (some (false, ()))) else (some (false, ()))) else (some (false, ())))))))))))
def N6 : A6 → Option B6 := M6 N7 N15 N16 N17 N18 N19 N20
def C6 : Ctr τ := ⟨i6, o6, N6⟩
theorem g6 : GOK κ Try.prog (G6 N7 N15 N16 N17 N18 N19 N20) := (gok_cons s7 (gok_cons s15 (gok_cons s16 (gok_cons s17 (gok_cons s18 (gok_cons s19 (gok_cons s20 gok_nil)))))))
theorem lall6 : ∀ Z : Zn, Z.rl = C6.o.keeps → Try.f6.ntmps ≤ Z.nt → ∀ p ∈ loops 0 (bodyOf Try.f6), ∀ C, (tabL []) p.1 = some C → LoopOK κ Try.prog Z p.2 C := fun Z h n => fun p hp => (by cases (show p ∈ ([] : List (Nat × Code)) from hp))
theorem e6 : ∀ (c7 : A7 → Option B7) (c15 : A15 → Option B15) (c16 : A16 → Option B16) (c17 : A17 → Option B17) (c18 : A18 → Option B18) (c19 : A19 → Option B19) (c20 : A20 → Option B20) x, M6 c7 c15 c16 c17 c18 c19 c20 x = fnE Try.prog κ (G6 c7 c15 c16 c17 c18 c19 c20) (tabL []) Try.f6 i6 o6 x := fun c7 c15 c16 c17 c18 c19 c20 x => by kernel_rfl
theorem s6 : Sound κ Try.prog C6 6 := fn_sound (S := (tabL [])) (F := Try.f6) (code := bodyOf Try.f6) (by kernel_rfl) g6 Try.func6 (by kernel_rfl) (by kernel_rfl) (by kernel_rfl) lall6 (by kernel_rfl) (by kernel_rfl) fun x y h => (e6 N7 N15 N16 N17 N18 N19 N20 x).symm.trans h
end Go.Proofs.Ytgdnleanagclaaa.E
