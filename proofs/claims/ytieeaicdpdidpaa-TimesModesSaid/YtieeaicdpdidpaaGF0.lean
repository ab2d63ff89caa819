/- What each function comes to, told as a Lean function, and that the machine does so. No condition. -/
import Derived.Test.YtieeaicdpdidpaaGE1
import Derived.Test.YtieeaicdpdidpaaProg
namespace Go.Proofs.Ytieeaicdpdidpaa.E
open Go
set_option linter.unusedVariables false
abbrev T31 : Type := ((Int × Int) × (Int × Int))
def τ : Nat → Type := fun e => bif Nat.beq e 31 then T31 else Unit
theorem τ_else {e : Nat} (h31 : ¬ e = 31) : τ e = Unit := by simp [τ, beq_false h31]
def κ : (e : Nat) → K τ (τ e) := fun e => if h31 : e = 31 then h31 ▸ (show K τ (τ 31) from ((.pair (.pair (.int .i64) (.int .u64)) (.pair (.int .i64) (.int .u64))) : K τ T31)) else cast (congrArg (K τ) (τ_else h31).symm) K.unit
end Go.Proofs.Ytieeaicdpdidpaa.E
namespace Go.Proofs.Ytieeaicdpdidpaa.E
open Go
set_option linter.unusedVariables false
set_option maxRecDepth 100000
abbrev A25 : Type := ((Int × Int) × Unit)
abbrev B25 : Type := (Int × Int × Unit)
def i25 : Fr τ A25 := (.val 0 (.pair (.int .i64) (.int .u64)) .nil)
def o25 : Fr τ B25 := (.val 1000 (.int .u64) (.val 1001 (.int .u64) .nil))
def G25 (c42 : (Int × Int × Int × Unit) → Option (Int × Int × Unit)) : Nat → Option (Ctr τ) := tabG [(42, ({ (cSub64 (τ := τ)) with f := c42 } : Ctr τ))]
def M25 (c42 : (Int × Int × Int × Unit) → Option (Int × Int × Unit)) : A25 → Option B25 := fun ⟨⟨w'_0, w'_1⟩, ()⟩ => (bif decide (w'_0 ≥ 0) then (let v0 : Int := IntKind.wrap IntKind.u64 w'_0; some (v0, (w'_1, ()))) else ((c42 (0, (w'_1, (0, ())))).bind fun ⟨y1_0, ⟨y1_1, ()⟩⟩ => (let v0 : Int := IntKind.wrap IntKind.u64 w'_0; (c42 (0, (v0, (y1_1, ())))).bind fun ⟨y2_0, ⟨y2_1, ()⟩⟩ => (some (y2_0, (y1_0, ()))))))
def N25 : A25 → Option B25 := M25 (cSub64 (τ := τ)).f
def C25 : Ctr τ := ⟨i25, o25, N25⟩
theorem t25_42 : Sound κ Try.prog cSub64 42 := sub64_sound Try.func42 (by kernel_rfl) (by kernel_rfl) (by kernel_rfl) (by kernel_rfl)
theorem g25 : GOK κ Try.prog (G25 (cSub64 (τ := τ)).f) := (gok_cons t25_42 gok_nil)
theorem lall25 : ∀ Z : Zn, Z.rl = C25.o.keeps → Try.f25.ntmps ≤ Z.nt → ∀ p ∈ loops 0 (bodyOf Try.f25), ∀ C, (tabL []) p.1 = some C → LoopOK κ Try.prog Z p.2 C := fun Z h n => fun p hp => (by cases (show p ∈ ([] : List (Nat × Code)) from hp))
theorem e25 : ∀ (c42 : (Int × Int × Int × Unit) → Option (Int × Int × Unit)) x, M25 c42 x = fnE Try.prog κ (G25 c42) (tabL []) Try.f25 i25 o25 x := fun c42 x => by kernel_rfl
theorem s25 : Sound κ Try.prog C25 25 := fn_sound (S := (tabL [])) (F := Try.f25) (code := bodyOf Try.f25) (by kernel_rfl) g25 Try.func25 (by kernel_rfl) (by kernel_rfl) (by kernel_rfl) lall25 (by kernel_rfl) (by kernel_rfl) fun x y h => (e25 (cSub64 (τ := τ)).f x).symm.trans h
end Go.Proofs.Ytieeaicdpdidpaa.E
namespace Go.Proofs.Ytieeaicdpdidpaa.E
open Go
set_option linter.unusedVariables false
set_option maxRecDepth 100000
abbrev A26 : Type := (Int × Int × Unit)
abbrev B26 : Type := (Int × Int × Unit)
def i26 : Fr τ A26 := (.val 0 (.int .u64) (.val 1 (.int .u64) .nil))
def o26 : Fr τ B26 := (.val 1000 (.int .u64) (.val 1001 (.int .u64) .nil))
def G26 : Nat → Option (Ctr τ) := tabG []
def M26 : A26 → Option B26 := fun ⟨x', ⟨y', ()⟩⟩ => (let v0 : Int := Int.fdiv x' 4294967296; let v1 : Int := Int.fdiv y' 4294967296; let v2 : Int := v0 * v1; let v3 : Int := IntKind.wrap IntKind.u64 v2; let v4 : Int := ↑(BitVec.toNat (BitVec.ofInt 64 y' &&& BitVec.ofInt 64 4294967295)); let v5 : Int := IntKind.wrap IntKind.u64 v4; let v6 : Int := v0 * v5; let v7 : Int := IntKind.wrap IntKind.u64 v6; let v8 : Int := ↑(BitVec.toNat (BitVec.ofInt 64 x' &&& BitVec.ofInt 64 4294967295)); let v9 : Int := IntKind.wrap IntKind.u64 v8; let v10 : Int := v9 * v5; let v11 : Int := IntKind.wrap IntKind.u64 v10; let v12 : Int := Int.fdiv v11 4294967296; let v13 : Int := v7 + v12; let v14 : Int := IntKind.wrap IntKind.u64 v13; let v15 : Int := Int.fdiv v14 4294967296; let v16 : Int := v3 + v15; let v17 : Int := IntKind.wrap IntKind.u64 v16; let v18 : Int := ↑(BitVec.toNat (BitVec.ofInt 64 v14 &&& BitVec.ofInt 64 4294967295)); let v19 : Int := IntKind.wrap IntKind.u64 v18; let v20 : Int := v9 * v1; let v21 : Int := IntKind.wrap IntKind.u64 v20; let v22 : Int := v19 + v21; let v23 : Int := IntKind.wrap IntKind.u64 v22; let v24 : Int := Int.fdiv v23 4294967296; let v25 : Int := v17 + v24; let v26 : Int := IntKind.wrap IntKind.u64 v25; let v27 : Int := x' * y'; let v28 : Int := IntKind.wrap IntKind.u64 v27; some (v26, (v28, ())))
def N26 : A26 → Option B26 := M26
def C26 : Ctr τ := ⟨i26, o26, N26⟩
theorem g26 : GOK κ Try.prog (G26) := gok_nil
theorem lall26 : ∀ Z : Zn, Z.rl = C26.o.keeps → Try.f26.ntmps ≤ Z.nt → ∀ p ∈ loops 0 (bodyOf Try.f26), ∀ C, (tabL []) p.1 = some C → LoopOK κ Try.prog Z p.2 C := fun Z h n => fun p hp => (by cases (show p ∈ ([] : List (Nat × Code)) from hp))
theorem e26 : ∀ x, M26 x = fnE Try.prog κ (G26) (tabL []) Try.f26 i26 o26 x := fun x => by kernel_rfl
theorem s26 : Sound κ Try.prog C26 26 := fn_sound (S := (tabL [])) (F := Try.f26) (code := bodyOf Try.f26) (by kernel_rfl) g26 Try.func26 (by kernel_rfl) (by kernel_rfl) (by kernel_rfl) lall26 (by kernel_rfl) (by kernel_rfl) fun x y h => (e26 x).symm.trans h
end Go.Proofs.Ytieeaicdpdidpaa.E
namespace Go.Proofs.Ytieeaicdpdidpaa.E
open Go
set_option linter.unusedVariables false
set_option maxRecDepth 100000
abbrev A27 : Type := (Bool × Int × Int × Unit)
abbrev B27 : Type := (Int × Unit)
def i27 : Fr τ A27 := (.val 0 .bool (.val 1 (.int .u64) (.val 2 (.int .u64) .nil)))
def o27 : Fr τ B27 := (.val 1000 (.int .u64) .nil)
def G27 : Nat → Option (Ctr τ) := tabG []
def M27 : A27 → Option B27 := fun ⟨first', ⟨a', ⟨b', ()⟩⟩⟩ => (bif first' then (some (a', ())) else (some (b', ())))
def N27 : A27 → Option B27 := M27
def C27 : Ctr τ := ⟨i27, o27, N27⟩
theorem g27 : GOK κ Try.prog (G27) := gok_nil
theorem lall27 : ∀ Z : Zn, Z.rl = C27.o.keeps → Try.f27.ntmps ≤ Z.nt → ∀ p ∈ loops 0 (bodyOf Try.f27), ∀ C, (tabL []) p.1 = some C → LoopOK κ Try.prog Z p.2 C := fun Z h n => fun p hp => (by cases (show p ∈ ([] : List (Nat × Code)) from hp))
theorem e27 : ∀ x, M27 x = fnE Try.prog κ (G27) (tabL []) Try.f27 i27 o27 x := fun x => by kernel_rfl
theorem s27 : Sound κ Try.prog C27 27 := fn_sound (S := (tabL [])) (F := Try.f27) (code := bodyOf Try.f27) (by kernel_rfl) g27 Try.func27 (by kernel_rfl) (by kernel_rfl) (by kernel_rfl) lall27 (by kernel_rfl) (by kernel_rfl) fun x y h => (e27 x).symm.trans h
end Go.Proofs.Ytieeaicdpdidpaa.E
namespace Go.Proofs.Ytieeaicdpdidpaa.E
open Go
set_option linter.unusedVariables false
set_option maxRecDepth 100000
abbrev A24 : Type := ((Int × Int) × (Int × Int) × Unit)
abbrev B24 : Type := ((Int × Int) × Int × Unit)
def i24 : Fr τ A24 := (.val 0 (.pair (.int .i64) (.int .u64)) (.val 1 (.pair (.int .i64) (.int .u64)) .nil))
def o24 : Fr τ B24 := (.val 1000 (.pair (.int .i64) (.int .u64)) (.val 1001 (.int .i64) .nil))
def G24 (c42 : (Int × Int × Int × Unit) → Option (Int × Int × Unit)) : Nat → Option (Ctr τ) := tabG [(42, ({ (cSub64 (τ := τ)) with f := c42 } : Ctr τ))]
def M24 (c42 : (Int × Int × Int × Unit) → Option (Int × Int × Unit)) : A24 → Option B24 := fun ⟨⟨a'_0, a'_1⟩, ⟨⟨b'_0, b'_1⟩, ()⟩⟩ => ((c42 (a'_1, (b'_1, (0, ())))).bind fun ⟨y0_0, ⟨y0_1, ()⟩⟩ => (let v0 : Int := IntKind.wrap IntKind.u64 a'_0; let v1 : Int := IntKind.wrap IntKind.u64 b'_0; (c42 (v0, (v1, (y0_1, ())))).bind fun ⟨y1_0, ⟨y1_1, ()⟩⟩ => (bif !decide (a'_0 < 0) == decide (b'_0 < 0) then (let v2 : Int := IntKind.wrap IntKind.i64 y1_0; bif !decide (v2 < 0) == decide (a'_0 < 0) then (some ((0, 0), (10, ()))) else (some ((v2, y0_0), (0, ())))) else (let v2 : Int := IntKind.wrap IntKind.i64 y1_0; some ((v2, y0_0), (0, ()))))))
def N24 : A24 → Option B24 := M24 (cSub64 (τ := τ)).f
def C24 : Ctr τ := ⟨i24, o24, N24⟩
theorem t24_42 : Sound κ Try.prog cSub64 42 := sub64_sound Try.func42 (by kernel_rfl) (by kernel_rfl) (by kernel_rfl) (by kernel_rfl)
theorem g24 : GOK κ Try.prog (G24 (cSub64 (τ := τ)).f) := (gok_cons t24_42 gok_nil)
theorem lall24 : ∀ Z : Zn, Z.rl = C24.o.keeps → Try.f24.ntmps ≤ Z.nt → ∀ p ∈ loops 0 (bodyOf Try.f24), ∀ C, (tabL []) p.1 = some C → LoopOK κ Try.prog Z p.2 C := fun Z h n => fun p hp => (by cases (show p ∈ ([] : List (Nat × Code)) from hp))
theorem e24 : ∀ (c42 : (Int × Int × Int × Unit) → Option (Int × Int × Unit)) x, M24 c42 x = fnE Try.prog κ (G24 c42) (tabL []) Try.f24 i24 o24 x := fun c42 x => by kernel_rfl
theorem s24 : Sound κ Try.prog C24 24 := fn_sound (S := (tabL [])) (F := Try.f24) (code := bodyOf Try.f24) (by kernel_rfl) g24 Try.func24 (by kernel_rfl) (by kernel_rfl) (by kernel_rfl) lall24 (by kernel_rfl) (by kernel_rfl) fun x y h => (e24 (cSub64 (τ := τ)).f x).symm.trans h
end Go.Proofs.Ytieeaicdpdidpaa.E
namespace Go.Proofs.Ytieeaicdpdidpaa.E
open Go
set_option linter.unusedVariables false
set_option maxRecDepth 100000
abbrev A43 : Type := ((Int × Int) × Unit)
abbrev B43 : Type := ((Int × Int) × Int × Unit)
def i43 : Fr τ A43 := (.val 0 (.pair (.int .i64) (.int .u64)) .nil)
def o43 : Fr τ B43 := (.val 1000 (.pair (.int .i64) (.int .u64)) (.val 1001 (.int .i64) .nil))
def G43 (c24 : A24 → Option B24) : Nat → Option (Ctr τ) := tabG [(24, (⟨i24, o24, c24⟩ : Ctr τ))]
def M43 (c24 : A24 → Option B24) : A43 → Option B43 := fun ⟨⟨a'_0, a'_1⟩, ()⟩ => ((c24 ((0, 0), ((a'_0, a'_1), ()))).bind fun ⟨⟨y0_0, y0_1⟩, ⟨y0_2, ()⟩⟩ => (some ((y0_0, y0_1), (y0_2, ()))))
def N43 : A43 → Option B43 := M43 N24
def C43 : Ctr τ := ⟨i43, o43, N43⟩
theorem g43 : GOK κ Try.prog (G43 N24) := (gok_cons s24 gok_nil)
theorem lall43 : ∀ Z : Zn, Z.rl = C43.o.keeps → Try.f43.ntmps ≤ Z.nt → ∀ p ∈ loops 0 (bodyOf Try.f43), ∀ C, (tabL []) p.1 = some C → LoopOK κ Try.prog Z p.2 C := fun Z h n => fun p hp => (by cases (show p ∈ ([] : List (Nat × Code)) from hp))
theorem e43 : ∀ (c24 : A24 → Option B24) x, M43 c24 x = fnE Try.prog κ (G43 c24) (tabL []) Try.f43 i43 o43 x := fun c24 x => by kernel_rfl
theorem s43 : Sound κ Try.prog C43 43 := fn_sound (S := (tabL [])) (F := Try.f43) (code := bodyOf Try.f43) (by kernel_rfl) g43 Try.func43 (by kernel_rfl) (by kernel_rfl) (by kernel_rfl) lall43 (by kernel_rfl) (by kernel_rfl) fun x y h => (e43 N24 x).symm.trans h
end Go.Proofs.Ytieeaicdpdidpaa.E
namespace Go.Proofs.Ytieeaicdpdidpaa.E
open Go
set_option linter.unusedVariables false
set_option maxRecDepth 100000
abbrev A29 : Type := (Bool × Int × Int × Unit)
abbrev B29 : Type := ((Int × Int) × Int × Unit)
def i29 : Fr τ A29 := (.val 0 .bool (.val 1 (.int .u64) (.val 2 (.int .u64) .nil)))
def o29 : Fr τ B29 := (.val 1000 (.pair (.int .i64) (.int .u64)) (.val 1001 (.int .i64) .nil))
def G29 (c43 : A43 → Option B43) : Nat → Option (Ctr τ) := tabG [(43, (⟨i43, o43, c43⟩ : Ctr τ))]
def M29 (c43 : A43 → Option B43) : A29 → Option B29 := fun ⟨below', ⟨hi', ⟨lo', ()⟩⟩⟩ => (let v0 : Int := Int.fdiv hi' 9223372036854775808; bif v0 == 0 then (bif below' then (let v1 : Int := IntKind.wrap IntKind.i64 hi'; (c43 ((v1, lo'), ())).bind fun ⟨⟨y2_0, y2_1⟩, ⟨y2_2, ()⟩⟩ => (some ((y2_0, y2_1), (y2_2, ())))) else (let v1 : Int := IntKind.wrap IntKind.i64 hi'; some ((v1, lo'), (0, ())))) else (bif below' then (bif hi' == 9223372036854775808 then (bif lo' == 0 then (some ((-9223372036854775808, 0), (0, ()))) else (some ((0, 0), (10, ())))) else (some ((0, 0), (10, ())))) else (some ((0, 0), (10, ())))))
def N29 : A29 → Option B29 := M29 N43
def C29 : Ctr τ := ⟨i29, o29, N29⟩
theorem g29 : GOK κ Try.prog (G29 N43) := (gok_cons s43 gok_nil)
theorem lall29 : ∀ Z : Zn, Z.rl = C29.o.keeps → Try.f29.ntmps ≤ Z.nt → ∀ p ∈ loops 0 (bodyOf Try.f29), ∀ C, (tabL []) p.1 = some C → LoopOK κ Try.prog Z p.2 C := fun Z h n => fun p hp => (by cases (show p ∈ ([] : List (Nat × Code)) from hp))
theorem e29 : ∀ (c43 : A43 → Option B43) x, M29 c43 x = fnE Try.prog κ (G29 c43) (tabL []) Try.f29 i29 o29 x := fun c43 x => by kernel_rfl
theorem s29 : Sound κ Try.prog C29 29 := fn_sound (S := (tabL [])) (F := Try.f29) (code := bodyOf Try.f29) (by kernel_rfl) g29 Try.func29 (by kernel_rfl) (by kernel_rfl) (by kernel_rfl) lall29 (by kernel_rfl) (by kernel_rfl) fun x y h => (e29 N43 x).symm.trans h
end Go.Proofs.Ytieeaicdpdidpaa.E
namespace Go.Proofs.Ytieeaicdpdidpaa.E
open Go
set_option linter.unusedVariables false
set_option maxRecDepth 100000
abbrev A12 : Type := ((Int × Int) × (Int × Int) × Unit)
abbrev B12 : Type := ((Int × Int) × Int × Unit)
def i12 : Fr τ A12 := (.val 0 (.pair (.int .i64) (.int .u64)) (.val 1 (.pair (.int .i64) (.int .u64)) .nil))
def o12 : Fr τ B12 := (.val 1000 (.pair (.int .i64) (.int .u64)) (.val 1001 (.int .i64) .nil))
def G12 (c25 : A25 → Option B25) (c26 : A26 → Option B26) (c27 : A27 → Option B27) (c28 : (Int × Int × Int × Unit) → Option (Int × Int × Unit)) (c29 : A29 → Option B29) : Nat → Option (Ctr τ) := tabG [(25, (⟨i25, o25, c25⟩ : Ctr τ)), (26, (⟨i26, o26, c26⟩ : Ctr τ)), (27, (⟨i27, o27, c27⟩ : Ctr τ)), (28, ({ (cAdd64 (τ := τ)) with f := c28 } : Ctr τ)), (29, (⟨i29, o29, c29⟩ : Ctr τ))]
def M12 (c25 : A25 → Option B25) (c26 : A26 → Option B26) (c27 : A27 → Option B27) (c28 : (Int × Int × Int × Unit) → Option (Int × Int × Unit)) (c29 : A29 → Option B29) : A12 → Option B12 := fun ⟨⟨a'_0, a'_1⟩, ⟨⟨b'_0, b'_1⟩, ()⟩⟩ => ((c25 ((a'_0, a'_1), ())).bind fun ⟨y0_0, ⟨y0_1, ()⟩⟩ => ((c25 ((b'_0, b'_1), ())).bind fun ⟨y1_0, ⟨y1_1, ()⟩⟩ => (bif y0_0 != 0 then (bif y1_0 != 0 then (some ((0, 0), (10, ()))) else ((c26 (y0_1, (y1_1, ()))).bind fun ⟨y4_0, ⟨y4_1, ()⟩⟩ => ((c27 (y0_0 != 0, (y1_1, (y0_1, ())))).bind fun ⟨y5, ()⟩ => (let v0 : Int := ↑(BitVec.toNat (BitVec.ofInt 64 y0_0 ||| BitVec.ofInt 64 y1_0)); let v1 : Int := IntKind.wrap IntKind.u64 v0; (c26 (v1, (y5, ()))).bind fun ⟨y6_0, ⟨y6_1, ()⟩⟩ => ((c28 (y4_0, (y6_1, (0, ())))).bind fun ⟨y7_0, ⟨y7_1, ()⟩⟩ => (bif y6_0 != 0 then (some ((0, 0), (10, ()))) else (bif y7_1 != 0 then (some ((0, 0), (10, ()))) else ((c29 (!decide (a'_0 < 0) == decide (b'_0 < 0), (y7_0, (y4_1, ())))).bind fun ⟨⟨y10_0, y10_1⟩, ⟨y10_2, ()⟩⟩ => (some ((y10_0, y10_1), (y10_2, ()))))))))))) else ((c26 (y0_1, (y1_1, ()))).bind fun ⟨y3_0, ⟨y3_1, ()⟩⟩ => ((c27 (y0_0 != 0, (y1_1, (y0_1, ())))).bind fun ⟨y4, ()⟩ => (let v0 : Int := ↑(BitVec.toNat (BitVec.ofInt 64 y0_0 ||| BitVec.ofInt 64 y1_0)); let v1 : Int := IntKind.wrap IntKind.u64 v0; (c26 (v1, (y4, ()))).bind fun ⟨y5_0, ⟨y5_1, ()⟩⟩ => ((c28 (y3_0, (y5_1, (0, ())))).bind fun ⟨y6_0, ⟨y6_1, ()⟩⟩ => (bif y5_0 != 0 then (some ((0, 0), (10, ()))) else (bif y6_1 != 0 then (some ((0, 0), (10, ()))) else ((c29 (!decide (a'_0 < 0) == decide (b'_0 < 0), (y6_0, (y3_1, ())))).bind fun ⟨⟨y9_0, y9_1⟩, ⟨y9_2, ()⟩⟩ => (some ((y9_0, y9_1), (y9_2, ())))))))))))))
def N12 : A12 → Option B12 := M12 N25 N26 N27 (cAdd64 (τ := τ)).f N29
def C12 : Ctr τ := ⟨i12, o12, N12⟩
theorem t12_28 : Sound κ Try.prog cAdd64 28 := add64_sound Try.func28 (by kernel_rfl) (by kernel_rfl) (by kernel_rfl) (by kernel_rfl)
theorem g12 : GOK κ Try.prog (G12 N25 N26 N27 (cAdd64 (τ := τ)).f N29) := (gok_cons s25 (gok_cons s26 (gok_cons s27 (gok_cons t12_28 (gok_cons s29 gok_nil)))))
theorem lall12 : ∀ Z : Zn, Z.rl = C12.o.keeps → Try.f12.ntmps ≤ Z.nt → ∀ p ∈ loops 0 (bodyOf Try.f12), ∀ C, (tabL []) p.1 = some C → LoopOK κ Try.prog Z p.2 C := fun Z h n => fun p hp => (by cases (show p ∈ ([] : List (Nat × Code)) from hp))
theorem e12 : ∀ (c25 : A25 → Option B25) (c26 : A26 → Option B26) (c27 : A27 → Option B27) (c28 : (Int × Int × Int × Unit) → Option (Int × Int × Unit)) (c29 : A29 → Option B29) x, M12 c25 c26 c27 c28 c29 x = fnE Try.prog κ (G12 c25 c26 c27 c28 c29) (tabL []) Try.f12 i12 o12 x := fun c25 c26 c27 c28 c29 x => by kernel_rfl
theorem s12 : Sound κ Try.prog C12 12 := fn_sound (S := (tabL [])) (F := Try.f12) (code := bodyOf Try.f12) (by kernel_rfl) g12 Try.func12 (by kernel_rfl) (by kernel_rfl) (by kernel_rfl) lall12 (by kernel_rfl) (by kernel_rfl) fun x y h => (e12 N25 N26 N27 (cAdd64 (τ := τ)).f N29 x).symm.trans h
end Go.Proofs.Ytieeaicdpdidpaa.E
namespace Go.Proofs.Ytieeaicdpdidpaa.E
open Go
set_option linter.unusedVariables false
set_option maxRecDepth 100000
abbrev A20 : Type := (Int × Unit)
abbrev B20 : Type := ((Int × Int) × Unit)
def i20 : Fr τ A20 := (.val 0 (.int .i64) .nil)
def o20 : Fr τ B20 := (.val 1000 (.pair (.int .i64) (.int .u64)) .nil)
def G20 : Nat → Option (Ctr τ) := tabG []
def M20 : A20 → Option B20 := fun ⟨v', ()⟩ => (let v0 : Int := Int.fdiv v' 9223372036854775808; let v1 : Int := IntKind.wrap IntKind.u64 v'; some ((v0, v1), ()))
def N20 : A20 → Option B20 := M20
def C20 : Ctr τ := ⟨i20, o20, N20⟩
theorem g20 : GOK κ Try.prog (G20) := gok_nil
theorem lall20 : ∀ Z : Zn, Z.rl = C20.o.keeps → Try.f20.ntmps ≤ Z.nt → ∀ p ∈ loops 0 (bodyOf Try.f20), ∀ C, (tabL []) p.1 = some C → LoopOK κ Try.prog Z p.2 C := fun Z h n => fun p hp => (by cases (show p ∈ ([] : List (Nat × Code)) from hp))
theorem e20 : ∀ x, M20 x = fnE Try.prog κ (G20) (tabL []) Try.f20 i20 o20 x := fun x => by kernel_rfl
theorem s20 : Sound κ Try.prog C20 20 := fn_sound (S := (tabL [])) (F := Try.f20) (code := bodyOf Try.f20) (by kernel_rfl) g20 Try.func20 (by kernel_rfl) (by kernel_rfl) (by kernel_rfl) lall20 (by kernel_rfl) (by kernel_rfl) fun x y h => (e20 x).symm.trans h
end Go.Proofs.Ytieeaicdpdidpaa.E
namespace Go.Proofs.Ytieeaicdpdidpaa.E
open Go
set_option linter.unusedVariables false
set_option maxRecDepth 100000
abbrev A52 : Type := (Int × Unit)
abbrev B52 : Type := (Int × Unit)
def i52 : Fr τ A52 := (.val 0 (.int .u64) .nil)
def o52 : Fr τ B52 := (.val 1000 (.int .i64) .nil)
def G52 : Nat → Option (Ctr τ) := tabG []
def M52 : A52 → Option B52 := fun ⟨x', ()⟩ => (bif decide (x' ≥ 4294967296) then (let v0 : Int := Int.fdiv x' 4294967296; bif decide (v0 ≥ 65536) then (let v1 : Int := Int.fdiv v0 65536; bif decide (v1 ≥ 256) then (let v2 : Int := Int.fdiv v1 256; let v3 : Int := IntKind.wrap IntKind.u8 v2; (bif decide (0 ≤ v3) then (List.toArray (List.append (List.append [0, 1, 2, 2, 3, 3, 3, 3, 4, 4, 4, 4, 4, 4, 4, 4, 5, 5, 5, 5, 5, 5, 5, 5, 5, 5, 5, 5, 5, 5, 5, 5, 6, 6, 6, 6, 6, 6, 6, 6, 6, 6, 6, 6, 6, 6, 6, 6, 6, 6, 6, 6, 6, 6, 6, 6, 6, 6, 6, 6, 6, 6, 6, 6] [7, 7, 7, 7, 7, 7, 7, 7, 7, 7, 7, 7, 7, 7, 7, 7, 7, 7, 7, 7, 7, 7, 7, 7, 7, 7, 7, 7, 7, 7, 7, 7, 7, 7, 7, 7, 7, 7, 7, 7, 7, 7, 7, 7, 7, 7, 7, 7, 7, 7, 7, 7, 7, 7, 7, 7, 7, 7, 7, 7, 7, 7, 7, 7]) (List.append [8, 8, 8, 8, 8, 8, 8, 8, 8, 8, 8, 8, 8, 8, 8, 8, 8, 8, 8, 8, 8, 8, 8, 8, 8, 8, 8, 8, 8, 8, 8, 8, 8, 8, 8, 8, 8, 8, 8, 8, 8, 8, 8, 8, 8, 8, 8, 8, 8, 8, 8, 8, 8, 8, 8, 8, 8, 8, 8, 8, 8, 8, 8, 8] [8, 8, 8, 8, 8, 8, 8, 8, 8, 8, 8, 8, 8, 8, 8, 8, 8, 8, 8, 8, 8, 8, 8, 8, 8, 8, 8, 8, 8, 8, 8, 8, 8, 8, 8, 8, 8, 8, 8, 8, 8, 8, 8, 8, 8, 8, 8, 8, 8, 8, 8, 8, 8, 8, 8, 8, 8, 8, 8, 8, 8, 8, 8, 8])))[Int.toNat v3]? else none).bind fun y3 => (let v4 : Int := ↑(UInt8.toNat y3); let v5 : Int := IntKind.wrap IntKind.i64 v4; let v6 : Int := 56 + v5; let v7 : Int := IntKind.wrap IntKind.i64 v6; some (v7, ()))) else (let v2 : Int := IntKind.wrap IntKind.u8 v1; (bif decide (0 ≤ v2) then (List.toArray (List.append (List.append [0, 1, 2, 2, 3, 3, 3, 3, 4, 4, 4, 4, 4, 4, 4, 4, 5, 5, 5, 5, 5, 5, 5, 5, 5, 5, 5, 5, 5, 5, 5, 5, 6, 6, 6, 6, 6, 6, 6, 6, 6, 6, 6, 6, 6, 6, 6, 6, 6, 6, 6, 6, 6, 6, 6, 6, 6, 6, 6, 6, 6, 6, 6, 6] [7, 7, 7, 7, 7, 7, 7, 7, 7, 7, 7, 7, 7, 7, 7, 7, 7, 7, 7, 7, 7, 7, 7, 7, 7, 7, 7, 7, 7, 7, 7, 7, 7, 7, 7, 7, 7, 7, 7, 7, 7, 7, 7, 7, 7, 7, 7, 7, 7, 7, 7, 7, 7, 7, 7, 7, 7, 7, 7, 7, 7, 7, 7, 7]) (List.append [8, 8, 8, 8, 8, 8, 8, 8, 8, 8, 8, 8, 8, 8, 8, 8, 8, 8, 8, 8, 8, 8, 8, 8, 8, 8, 8, 8, 8, 8, 8, 8, 8, 8, 8, 8, 8, 8, 8, 8, 8, 8, 8, 8, 8, 8, 8, 8, 8, 8, 8, 8, 8, 8, 8, 8, 8, 8, 8, 8, 8, 8, 8, 8] [8, 8, 8, 8, 8, 8, 8, 8, 8, 8, 8, 8, 8, 8, 8, 8, 8, 8, 8, 8, 8, 8, 8, 8, 8, 8, 8, 8, 8, 8, 8, 8, 8, 8, 8, 8, 8, 8, 8, 8, 8, 8, 8, 8, 8, 8, 8, 8, 8, 8, 8, 8, 8, 8, 8, 8, 8, 8, 8, 8, 8, 8, 8, 8])))[Int.toNat v2]? else none).bind fun y3 => (let v3 : Int := ↑(UInt8.toNat y3); let v4 : Int := IntKind.wrap IntKind.i64 v3; let v5 : Int := 48 + v4; let v6 : Int := IntKind.wrap IntKind.i64 v5; some (v6, ())))) else (bif decide (v0 ≥ 256) then (let v1 : Int := Int.fdiv v0 256; let v2 : Int := IntKind.wrap IntKind.u8 v1; (bif decide (0 ≤ v2) then (List.toArray (List.append (List.append [0, 1, 2, 2, 3, 3, 3, 3, 4, 4, 4, 4, 4, 4, 4, 4, 5, 5, 5, 5, 5, 5, 5, 5, 5, 5, 5, 5, 5, 5, 5, 5, 6, 6, 6, 6, 6, 6, 6, 6, 6, 6, 6, 6, 6, 6, 6, 6, 6, 6, 6, 6, 6, 6, 6, 6, 6, 6, 6, 6, 6, 6, 6, 6] [7, 7, 7, 7, 7, 7, 7, 7, 7, 7, 7, 7, 7, 7, 7, 7, 7, 7, 7, 7, 7, 7, 7, 7, 7, 7, 7, 7, 7, 7, 7, 7, 7, 7, 7, 7, 7, 7, 7, 7, 7, 7, 7, 7, 7, 7, 7, 7, 7, 7, 7, 7, 7, 7, 7, 7, 7, 7, 7, 7, 7, 7, 7, 7]) (List.append [8, 8, 8, 8, 8, 8, 8, 8, 8, 8, 8, 8, 8, 8, 8, 8, 8, 8, 8, 8, 8, 8, 8, 8, 8, 8, 8, 8, 8, 8, 8, 8, 8, 8, 8, 8, 8, 8, 8, 8, 8, 8, 8, 8, 8, 8, 8, 8, 8, 8, 8, 8, 8, 8, 8, 8, 8, 8, 8, 8, 8, 8, 8, 8] [8, 8, 8, 8, 8, 8, 8, 8, 8, 8, 8, 8, 8, 8, 8, 8, 8, 8, 8, 8, 8, 8, 8, 8, 8, 8, 8, 8, 8, 8, 8, 8, 8, 8, 8, 8, 8, 8, 8, 8, 8, 8, 8, 8, 8, 8, 8, 8, 8, 8, 8, 8, 8, 8, 8, 8, 8, 8, 8, 8, 8, 8, 8, 8])))[Int.toNat v2]? else none).bind fun y3 => (let v3 : Int := ↑(UInt8.toNat y3); let v4 : Int := IntKind.wrap IntKind.i64 v3; let v5 : Int := 40 + v4; let v6 : Int := IntKind.wrap IntKind.i64 v5; some (v6, ()))) else (let v1 : Int := IntKind.wrap IntKind.u8 v0; (bif decide (0 ≤ v1) then (List.toArray (List.append (List.append [0, 1, 2, 2, 3, 3, 3, 3, 4, 4, 4, 4, 4, 4, 4, 4, 5, 5, 5, 5, 5, 5, 5, 5, 5, 5, 5, 5, 5, 5, 5, 5, 6, 6, 6, 6, 6, 6, 6, 6, 6, 6, 6, 6, 6, 6, 6, 6, 6, 6, 6, 6, 6, 6, 6, 6, 6, 6, 6, 6, 6, 6, 6, 6] [7, 7, 7, 7, 7, 7, 7, 7, 7, 7, 7, 7, 7, 7, 7, 7, 7, 7, 7, 7, 7, 7, 7, 7, 7, 7, 7, 7, 7, 7, 7, 7, 7, 7, 7, 7, 7, 7, 7, 7, 7, 7, 7, 7, 7, 7, 7, 7, 7, 7, 7, 7, 7, 7, 7, 7, 7, 7, 7, 7, 7, 7, 7, 7]) (List.append [8, 8, 8, 8, 8, 8, 8, 8, 8, 8, 8, 8, 8, 8, 8, 8, 8, 8, 8, 8, 8, 8, 8, 8, 8, 8, 8, 8, 8, 8, 8, 8, 8, 8, 8, 8, 8, 8, 8, 8, 8, 8, 8, 8, 8, 8, 8, 8, 8, 8, 8, 8, 8, 8, 8, 8, 8, 8, 8, 8, 8, 8, 8, 8] [8, 8, 8, 8, 8, 8, 8, 8, 8, 8, 8, 8, 8, 8, 8, 8, 8, 8, 8, 8, 8, 8, 8, 8, 8, 8, 8, 8, 8, 8, 8, 8, 8, 8, 8, 8, 8, 8, 8, 8, 8, 8, 8, 8, 8, 8, 8, 8, 8, 8, 8, 8, 8, 8, 8, 8, 8, 8, 8, 8, 8, 8, 8, 8])))[Int.toNat v1]? else none).bind fun y3 => (let v2 : Int := ↑(UInt8.toNat y3); let v3 : Int := IntKind.wrap IntKind.i64 v2; let v4 : Int := 32 + v3; let v5 : Int := IntKind.wrap IntKind.i64 v4; some (v5, ()))))) else (bif decide (x' ≥ 65536) then (let v0 : Int := Int.fdiv x' 65536; bif decide (v0 ≥ 256) then (let v1 : Int := Int.fdiv v0 256; let v2 : Int := IntKind.wrap IntKind.u8 v1; (bif decide (0 ≤ v2) then (List.toArray (List.append (List.append [0, 1, 2, 2, 3, 3, 3, 3, 4, 4, 4, 4, 4, 4, 4, 4, 5, 5, 5, 5, 5, 5, 5, 5, 5, 5, 5, 5, 5, 5, 5, 5, 6, 6, 6, 6, 6, 6, 6, 6, 6, 6, 6, 6, 6, 6, 6, 6, 6, 6, 6, 6, 6, 6, 6, 6, 6, 6, 6, 6, 6, 6, 6, 6] [7, 7, 7, 7, 7, 7, 7, 7, 7, 7, 7, 7, 7, 7, 7, 7, 7, 7, 7, 7, 7, 7, 7, 7, 7, 7, 7, 7, 7, 7, 7, 7, 7, 7, 7, 7, 7, 7, 7, 7, 7, 7, 7, 7, 7, 7, 7, 7, 7, 7, 7, 7, 7, 7, 7, 7, 7, 7, 7, 7, 7, 7, 7, 7]) (List.append [8, 8, 8, 8, 8, 8, 8, 8, 8, 8, 8, 8, 8, 8, 8, 8, 8, 8, 8, 8, 8, 8, 8, 8, 8, 8, 8, 8, 8, 8, 8, 8, 8, 8, 8, 8, 8, 8, 8, 8, 8, 8, 8, 8, 8, 8, 8, 8, 8, 8, 8, 8, 8, 8, 8, 8, 8, 8, 8, 8, 8, 8, 8, 8] [8, 8, 8, 8, 8, 8, 8, 8, 8, 8, 8, 8, 8, 8, 8, 8, 8, 8, 8, 8, 8, 8, 8, 8, 8, 8, 8, 8, 8, 8, 8, 8, 8, 8, 8, 8, 8, 8, 8, 8, 8, 8, 8, 8, 8, 8, 8, 8, 8, 8, 8, 8, 8, 8, 8, 8, 8, 8, 8, 8, 8, 8, 8, 8])))[Int.toNat v2]? else none).bind fun y3 => (let v3 : Int := ↑(UInt8.toNat y3); let v4 : Int := IntKind.wrap IntKind.i64 v3; let v5 : Int := 24 + v4; let v6 : Int := IntKind.wrap IntKind.i64 v5; some (v6, ()))) else (let v1 : Int := IntKind.wrap IntKind.u8 v0; (bif decide (0 ≤ v1) then (List.toArray (List.append (List.append [0, 1, 2, 2, 3, 3, 3, 3, 4, 4, 4, 4, 4, 4, 4, 4, 5, 5, 5, 5, 5, 5, 5, 5, 5, 5, 5, 5, 5, 5, 5, 5, 6, 6, 6, 6, 6, 6, 6, 6, 6, 6, 6, 6, 6, 6, 6, 6, 6, 6, 6, 6, 6, 6, 6, 6, 6, 6, 6, 6, 6, 6, 6, 6] [7, 7, 7, 7, 7, 7, 7, 7, 7, 7, 7, 7, 7, 7, 7, 7, 7, 7, 7, 7, 7, 7, 7, 7, 7, 7, 7, 7, 7, 7, 7, 7, 7, 7, 7, 7, 7, 7, 7, 7, 7, 7, 7, 7, 7, 7, 7, 7, 7, 7, 7, 7, 7, 7, 7, 7, 7, 7, 7, 7, 7, 7, 7, 7]) (List.append [8, 8, 8, 8, 8, 8, 8, 8, 8, 8, 8, 8, 8, 8, 8, 8, 8, 8, 8, 8, 8, 8, 8, 8, 8, 8, 8, 8, 8, 8, 8, 8, 8, 8, 8, 8, 8, 8, 8, 8, 8, 8, 8, 8, 8, 8, 8, 8, 8, 8, 8, 8, 8, 8, 8, 8, 8, 8, 8, 8, 8, 8, 8, 8] [8, 8, 8, 8, 8, 8, 8, 8, 8, 8, 8, 8, 8, 8, 8, 8, 8, 8, 8, 8, 8, 8, 8, 8, 8, 8, 8, 8, 8, 8, 8, 8, 8, 8, 8, 8, 8, 8, 8, 8, 8, 8, 8, 8, 8, 8, 8, 8, 8, 8, 8, 8, 8, 8, 8, 8, 8, 8, 8, 8, 8, 8, 8, 8])))[Int.toNat v1]? else none).bind fun y3 => (let v2 : Int := ↑(UInt8.toNat y3); let v3 : Int := IntKind.wrap IntKind.i64 v2; let v4 : Int := 16 + v3; let v5 : Int := IntKind.wrap IntKind.i64 v4; some (v5, ())))) else (bif decide (x' ≥ 256) then (let v0 : Int := Int.fdiv x' 256; let v1 : Int := IntKind.wrap IntKind.u8 v0; (bif decide (0 ≤ v1) then (List.toArray (List.append (List.append [0, 1, 2, 2, 3, 3, 3, 3, 4, 4, 4, 4, 4, 4, 4, 4, 5, 5, 5, 5, 5, 5, 5, 5, 5, 5, 5, 5, 5, 5, 5, 5, 6, 6, 6, 6, 6, 6, 6, 6, 6, 6, 6, 6, 6, 6, 6, 6, 6, 6, 6, 6, 6, 6, 6, 6, 6, 6, 6, 6, 6, 6, 6, 6] [7, 7, 7, 7, 7, 7, 7, 7, 7, 7, 7, 7, 7, 7, 7, 7, 7, 7, 7, 7, 7, 7, 7, 7, 7, 7, 7, 7, 7, 7, 7, 7, 7, 7, 7, 7, 7, 7, 7, 7, 7, 7, 7, 7, 7, 7, 7, 7, 7, 7, 7, 7, 7, 7, 7, 7, 7, 7, 7, 7, 7, 7, 7, 7]) (List.append [8, 8, 8, 8, 8, 8, 8, 8, 8, 8, 8, 8, 8, 8, 8, 8, 8, 8, 8, 8, 8, 8, 8, 8, 8, 8, 8, 8, 8, 8, 8, 8, 8, 8, 8, 8, 8, 8, 8, 8, 8, 8, 8, 8, 8, 8, 8, 8, 8, 8, 8, 8, 8, 8, 8, 8, 8, 8, 8, 8, 8, 8, 8, 8] [8, 8, 8, 8, 8, 8, 8, 8, 8, 8, 8, 8, 8, 8, 8, 8, 8, 8, 8, 8, 8, 8, 8, 8, 8, 8, 8, 8, 8, 8, 8, 8, 8, 8, 8, 8, 8, 8, 8, 8, 8, 8, 8, 8, 8, 8, 8, 8, 8, 8, 8, 8, 8, 8, 8, 8, 8, 8, 8, 8, 8, 8, 8, 8])))[Int.toNat v1]? else none).bind fun y3 => (let v2 : Int := ↑(UInt8.toNat y3); let v3 : Int := IntKind.wrap IntKind.i64 v2; let v4 : Int := 8 + v3; let v5 : Int := IntKind.wrap IntKind.i64 v4; some (v5, ()))) else (let v0 : Int := IntKind.wrap IntKind.u8 x'; (bif decide (0 ≤ v0) then (List.toArray (List.append (List.append [0, 1, 2, 2, 3, 3, 3, 3, 4, 4, 4, 4, 4, 4, 4, 4, 5, 5, 5, 5, 5, 5, 5, 5, 5, 5, 5, 5, 5, 5, 5, 5, 6, 6, 6, 6, 6, 6, 6, 6, 6, 6, 6, 6, 6, 6, 6, 6, 6, 6, 6, 6, 6, 6, 6, 6, 6, 6, 6, 6, 6, 6, 6, 6] [7, 7, 7, 7, 7, 7, 7, 7, 7, 7, 7, 7, 7, 7, 7, 7, 7, 7, 7, 7, 7, 7, 7, 7, 7, 7, 7, 7, 7, 7, 7, 7, 7, 7, 7, 7, 7, 7, 7, 7, 7, 7, 7, 7, 7, 7, 7, 7, 7, 7, 7, 7, 7, 7, 7, 7, 7, 7, 7, 7, 7, 7, 7, 7]) (List.append [8, 8, 8, 8, 8, 8, 8, 8, 8, 8, 8, 8, 8, 8, 8, 8, 8, 8, 8, 8, 8, 8, 8, 8, 8, 8, 8, 8, 8, 8, 8, 8, 8, 8, 8, 8, 8, 8, 8, 8, 8, 8, 8, 8, 8, 8, 8, 8, 8, 8, 8, 8, 8, 8, 8, 8, 8, 8, 8, 8, 8, 8, 8, 8] [8, 8, 8, 8, 8, 8, 8, 8, 8, 8, 8, 8, 8, 8, 8, 8, 8, 8, 8, 8, 8, 8, 8, 8, 8, 8, 8, 8, 8, 8, 8, 8, 8, 8, 8, 8, 8, 8, 8, 8, 8, 8, 8, 8, 8, 8, 8, 8, 8, 8, 8, 8, 8, 8, 8, 8, 8, 8, 8, 8, 8, 8, 8, 8])))[Int.toNat v0]? else none).bind fun y3 => (let v1 : Int := ↑(UInt8.toNat y3); let v2 : Int := IntKind.wrap IntKind.i64 v1; let v3 : Int := 0 + v2; let v4 : Int := IntKind.wrap IntKind.i64 v3; some (v4, ()))))))
def N52 : A52 → Option B52 := M52
def C52 : Ctr τ := ⟨i52, o52, N52⟩
theorem g52 : GOK κ Try.prog (G52) := gok_nil
theorem lall52 : ∀ Z : Zn, Z.rl = C52.o.keeps → Try.f52.ntmps ≤ Z.nt → ∀ p ∈ loops 0 (bodyOf Try.f52), ∀ C, (tabL []) p.1 = some C → LoopOK κ Try.prog Z p.2 C := fun Z h n => fun p hp => (by cases (show p ∈ ([] : List (Nat × Code)) from hp))
theorem e52 : ∀ x, M52 x = fnE Try.prog κ (G52) (tabL []) Try.f52 i52 o52 x := fun x => by kernel_rfl
theorem s52 : Sound κ Try.prog C52 52 := fn_sound (S := (tabL [])) (F := Try.f52) (code := bodyOf Try.f52) (by kernel_rfl) g52 Try.func52 (by kernel_rfl) (by kernel_rfl) (by kernel_rfl) lall52 (by kernel_rfl) (by kernel_rfl) fun x y h => (e52 x).symm.trans h
end Go.Proofs.Ytieeaicdpdidpaa.E
namespace Go.Proofs.Ytieeaicdpdidpaa.E
open Go
set_option linter.unusedVariables false
set_option maxRecDepth 100000
abbrev A51 : Type := (Int × Unit)
abbrev B51 : Type := (Int × Unit)
def i51 : Fr τ A51 := (.val 0 (.int .u64) .nil)
def o51 : Fr τ B51 := (.val 1000 (.int .i64) .nil)
def G51 (c52 : A52 → Option B52) : Nat → Option (Ctr τ) := tabG [(52, (⟨i52, o52, c52⟩ : Ctr τ))]
def M51 (c52 : A52 → Option B52) : A51 → Option B51 := fun ⟨x', ()⟩ => ((c52 (x', ())).bind fun ⟨y0, ()⟩ => (let v0 : Int := 64 - y0; let v1 : Int := IntKind.wrap IntKind.i64 v0; some (v1, ())))
def N51 : A51 → Option B51 := M51 N52
def C51 : Ctr τ := ⟨i51, o51, N51⟩
theorem g51 : GOK κ Try.prog (G51 N52) := (gok_cons s52 gok_nil)
theorem lall51 : ∀ Z : Zn, Z.rl = C51.o.keeps → Try.f51.ntmps ≤ Z.nt → ∀ p ∈ loops 0 (bodyOf Try.f51), ∀ C, (tabL []) p.1 = some C → LoopOK κ Try.prog Z p.2 C := fun Z h n => fun p hp => (by cases (show p ∈ ([] : List (Nat × Code)) from hp))
theorem e51 : ∀ (c52 : A52 → Option B52) x, M51 c52 x = fnE Try.prog κ (G51 c52) (tabL []) Try.f51 i51 o51 x := fun c52 x => by kernel_rfl
theorem s51 : Sound κ Try.prog C51 51 := fn_sound (S := (tabL [])) (F := Try.f51) (code := bodyOf Try.f51) (by kernel_rfl) g51 Try.func51 (by kernel_rfl) (by kernel_rfl) (by kernel_rfl) lall51 (by kernel_rfl) (by kernel_rfl) fun x y h => (e51 N52 x).symm.trans h
end Go.Proofs.Ytieeaicdpdidpaa.E
namespace Go.Proofs.Ytieeaicdpdidpaa.E
open Go
set_option linter.unusedVariables false
set_option maxRecDepth 100000
abbrev A48 : Type := (Int × Int × Int × Unit)
abbrev B48 : Type := (Int × Int × Unit)
def i48 : Fr τ A48 := (.val 0 (.int .u64) (.val 1 (.int .u64) (.val 2 (.int .u64) .nil)))
def o48 : Fr τ B48 := (.val 1000 (.int .u64) (.val 1001 (.int .u64) .nil))
def G48 (c51 : A51 → Option B51) : Nat → Option (Ctr τ) := tabG [(51, (⟨i51, o51, c51⟩ : Ctr τ))]
abbrev LA48_2 : Type := (Int × Int × Int × Int × Int × Int × Int × Int × Int × Unit)
abbrev LB48_2 : Type := (Int × Int × Int × Int × Int × Int × Unit)
def li48_2 : Fr τ LA48_2 := (.val 2 (.int .u64) (.val 8 (.int .u64) (.val 9 (.int .u64) (.val 10 (.int .u64) (.val 14 (.int .u64) (.val 15 (.int .u64) (.val 16 (.int .u64) (.val 17 (.int .u64) (.val 18 (.int .u64) .nil)))))))))
def lo48_2 : Ot τ LB48_2 := .one (.exit 2) (.val 2 (.int .u64) (.val 8 (.int .u64) (.val 14 (.int .u64) (.val 15 (.int .u64) (.val 17 (.int .u64) (.val 18 (.int .u64) .nil))))))
def Q48_2 (c51 : A51 → Option B51) : LA48_2 → Option (LA48_2 ⊕ LB48_2) := fun ⟨y', ⟨s', ⟨yn1', ⟨yn0', ⟨un0', ⟨q1', ⟨rhat', ⟨un21', ⟨q0', ()⟩⟩⟩⟩⟩⟩⟩⟩⟩ => (bif decide (q0' ≥ 4294967296) then (let v0 : Int := rhat' + yn1'; let v1 : Int := IntKind.wrap IntKind.u64 v0; bif decide (v1 ≥ 4294967296) then (let v2 : Int := q0' - 1; let v3 : Int := IntKind.wrap IntKind.u64 v2; some (.inr (y', (s', (un0', (q1', (un21', (v3, ())))))))) else (let v2 : Int := q0' - 1; let v3 : Int := IntKind.wrap IntKind.u64 v2; some (.inl (y', (s', (yn1', (yn0', (un0', (q1', (v1, (un21', (v3, ())))))))))))) else (let v0 : Int := q0' * yn0'; let v1 : Int := IntKind.wrap IntKind.u64 v0; let v2 : Int := 4294967296 * rhat'; let v3 : Int := IntKind.wrap IntKind.u64 v2; let v4 : Int := v3 + un0'; let v5 : Int := IntKind.wrap IntKind.u64 v4; bif decide (v1 > v5) then (let v6 : Int := rhat' + yn1'; let v7 : Int := IntKind.wrap IntKind.u64 v6; bif decide (v7 ≥ 4294967296) then (let v8 : Int := q0' - 1; let v9 : Int := IntKind.wrap IntKind.u64 v8; some (.inr (y', (s', (un0', (q1', (un21', (v9, ())))))))) else (let v8 : Int := q0' - 1; let v9 : Int := IntKind.wrap IntKind.u64 v8; some (.inl (y', (s', (yn1', (yn0', (un0', (q1', (v7, (un21', (v9, ())))))))))))) else (some (.inr (y', (s', (un0', (q1', (un21', (q0', ()))))))))))
def R48_2 : LA48_2 → Option (LA48_2 ⊕ LB48_2) := Q48_2 N51
def L48_2 : Lc τ := ⟨li48_2, itrs R48_2, lo48_2⟩
abbrev LA48_0 : Type := (Int × Int × Int × Int × Int × Int × Int × Int × Int × Unit)
abbrev LB48_0 : Type := (Int × Int × Int × Int × Int × Int × Int × Int × Unit)
def li48_0 : Fr τ LA48_0 := (.val 2 (.int .u64) (.val 8 (.int .u64) (.val 9 (.int .u64) (.val 10 (.int .u64) (.val 11 (.int .u64) (.val 13 (.int .u64) (.val 14 (.int .u64) (.val 15 (.int .u64) (.val 16 (.int .u64) .nil)))))))))
def lo48_0 : Ot τ LB48_0 := .one (.exit 0) (.val 2 (.int .u64) (.val 8 (.int .u64) (.val 9 (.int .u64) (.val 10 (.int .u64) (.val 11 (.int .u64) (.val 13 (.int .u64) (.val 14 (.int .u64) (.val 15 (.int .u64) .nil))))))))
def Q48_0 (c51 : A51 → Option B51) : LA48_0 → Option (LA48_0 ⊕ LB48_0) := fun ⟨y', ⟨s', ⟨yn1', ⟨yn0', ⟨un32', ⟨un1', ⟨un0', ⟨q1', ⟨rhat', ()⟩⟩⟩⟩⟩⟩⟩⟩⟩ => (bif decide (q1' ≥ 4294967296) then (let v0 : Int := rhat' + yn1'; let v1 : Int := IntKind.wrap IntKind.u64 v0; bif decide (v1 ≥ 4294967296) then (let v2 : Int := q1' - 1; let v3 : Int := IntKind.wrap IntKind.u64 v2; some (.inr (y', (s', (yn1', (yn0', (un32', (un1', (un0', (v3, ())))))))))) else (let v2 : Int := q1' - 1; let v3 : Int := IntKind.wrap IntKind.u64 v2; some (.inl (y', (s', (yn1', (yn0', (un32', (un1', (un0', (v3, (v1, ())))))))))))) else (let v0 : Int := q1' * yn0'; let v1 : Int := IntKind.wrap IntKind.u64 v0; let v2 : Int := 4294967296 * rhat'; let v3 : Int := IntKind.wrap IntKind.u64 v2; let v4 : Int := v3 + un1'; let v5 : Int := IntKind.wrap IntKind.u64 v4; bif decide (v1 > v5) then (let v6 : Int := rhat' + yn1'; let v7 : Int := IntKind.wrap IntKind.u64 v6; bif decide (v7 ≥ 4294967296) then (let v8 : Int := q1' - 1; let v9 : Int := IntKind.wrap IntKind.u64 v8; some (.inr (y', (s', (yn1', (yn0', (un32', (un1', (un0', (v9, ())))))))))) else (let v8 : Int := q1' - 1; let v9 : Int := IntKind.wrap IntKind.u64 v8; some (.inl (y', (s', (yn1', (yn0', (un32', (un1', (un0', (v9, (v7, ())))))))))))) else (some (.inr (y', (s', (yn1', (yn0', (un32', (un1', (un0', (q1', ()))))))))))))
def R48_0 : LA48_0 → Option (LA48_0 ⊕ LB48_0) := Q48_0 N51
def L48_0 : Lc τ := ⟨li48_0, itrs R48_0, lo48_0⟩
def M48 (c51 : A51 → Option B51) (l48_0 : LA48_0 → Option LB48_0) (l48_2 : LA48_2 → Option LB48_2) : A48 → Option B48 := fun ⟨hi', ⟨lo', ⟨y', ()⟩⟩⟩ => (bif y' == 0 then none else (bif decide (y' ≤ hi') then none else (bif hi' == 0 then ((bif !y' == 0 then some () else none).bind fun () => ((bif !y' == 0 then some () else none).bind fun () => (let v0 : Int := Int.tdiv lo' y'; let v1 : Int := IntKind.wrap IntKind.u64 v0; let v2 : Int := Int.tmod lo' y'; some (v1, (v2, ()))))) else ((c51 (y', ())).bind fun ⟨y3, ()⟩ => (let v0 : Int := IntKind.wrap IntKind.u64 y3; (bif decide (0 ≤ v0) then some () else none).bind fun () => ((bif decide (0 ≤ v0) then some () else none).bind fun () => (let v1 : Int := 64 - v0; let v2 : Int := IntKind.wrap IntKind.u64 v1; (bif decide (0 ≤ v2) then some () else none).bind fun () => ((bif decide (0 ≤ v0) then some () else none).bind fun () => (let v3 : Int := y' * 2 ^ min (Int.toNat v0) 64; let v4 : Int := IntKind.wrap IntKind.u64 v3; let v5 : Int := Int.fdiv v4 4294967296; (bif !v5 == 0 then some () else none).bind fun () => (let v6 : Int := ↑(BitVec.toNat (BitVec.ofInt 64 v4 &&& BitVec.ofInt 64 4294967295)); let v7 : Int := IntKind.wrap IntKind.u64 v6; let v8 : Int := hi' * 2 ^ min (Int.toNat v0) 64; let v9 : Int := IntKind.wrap IntKind.u64 v8; let v10 : Int := Int.fdiv lo' (2 ^ min (Int.toNat v2) 64); let v11 : Int := ↑(BitVec.toNat (BitVec.ofInt 64 v9 ||| BitVec.ofInt 64 v10)); let v12 : Int := IntKind.wrap IntKind.u64 v11; let v13 : Int := lo' * 2 ^ min (Int.toNat v0) 64; let v14 : Int := IntKind.wrap IntKind.u64 v13; let v15 : Int := Int.fdiv v14 4294967296; let v16 : Int := ↑(BitVec.toNat (BitVec.ofInt 64 v14 &&& BitVec.ofInt 64 4294967295)); let v17 : Int := IntKind.wrap IntKind.u64 v16; let v18 : Int := Int.tdiv v12 v5; let v19 : Int := IntKind.wrap IntKind.u64 v18; let v20 : Int := v19 * v5; let v21 : Int := IntKind.wrap IntKind.u64 v20; let v22 : Int := v12 - v21; let v23 : Int := IntKind.wrap IntKind.u64 v22; (l48_0 (v4, (v0, (v5, (v7, (v12, (v15, (v17, (v19, (v23, ())))))))))).bind fun ⟨y9_0, ⟨y9_1, ⟨y9_2, ⟨y9_3, ⟨y9_4, ⟨y9_5, ⟨y9_6, ⟨y9_7, ()⟩⟩⟩⟩⟩⟩⟩⟩ => ((bif !y9_2 == 0 then some () else none).bind fun () => (let v24 : Int := y9_4 * 4294967296; let v25 : Int := IntKind.wrap IntKind.u64 v24; let v26 : Int := v25 + y9_5; let v27 : Int := IntKind.wrap IntKind.u64 v26; let v28 : Int := y9_7 * y9_0; let v29 : Int := IntKind.wrap IntKind.u64 v28; let v30 : Int := v27 - v29; let v31 : Int := IntKind.wrap IntKind.u64 v30; let v32 : Int := Int.tdiv v31 y9_2; let v33 : Int := IntKind.wrap IntKind.u64 v32; let v34 : Int := v33 * y9_2; let v35 : Int := IntKind.wrap IntKind.u64 v34; let v36 : Int := v31 - v35; let v37 : Int := IntKind.wrap IntKind.u64 v36; (l48_2 (y9_0, (y9_1, (y9_2, (y9_3, (y9_6, (y9_7, (v37, (v31, (v33, ())))))))))).bind fun ⟨y11_0, ⟨y11_1, ⟨y11_2, ⟨y11_3, ⟨y11_4, ⟨y11_5, ()⟩⟩⟩⟩⟩⟩ => ((bif decide (0 ≤ y11_1) then some () else none).bind fun () => (let v38 : Int := y11_3 * 4294967296; let v39 : Int := IntKind.wrap IntKind.u64 v38; let v40 : Int := v39 + y11_5; let v41 : Int := IntKind.wrap IntKind.u64 v40; let v42 : Int := y11_4 * 4294967296; let v43 : Int := IntKind.wrap IntKind.u64 v42; let v44 : Int := v43 + y11_2; let v45 : Int := IntKind.wrap IntKind.u64 v44; let v46 : Int := y11_5 * y11_0; let v47 : Int := IntKind.wrap IntKind.u64 v46; let v48 : Int := v45 - v47; let v49 : Int := IntKind.wrap IntKind.u64 v48; let v50 : Int := Int.fdiv v49 (2 ^ min (Int.toNat y11_1) 64); some (v41, (v50, ()))))))))))))))))
def N48 : A48 → Option B48 := M48 N51 (itrs R48_0) (itrs R48_2)
def C48 : Ctr τ := ⟨i48, o48, N48⟩
theorem g48 : GOK κ Try.prog (G48 N51) := (gok_cons s51 gok_nil)
theorem le48_2 : ∀ (c51 : A51 → Option B51) x, Q48_2 c51 x = run Try.prog κ (G48 c51) (tabL []) 2 (loopAt Try.f48 1) (li48_2.build x) (rnd li48_2 lo48_2) := fun c51 x => by kernel_rfl
theorem le48_0 : ∀ (c51 : A51 → Option B51) x, Q48_0 c51 x = run Try.prog κ (G48 c51) (tabL []) 0 (loopAt Try.f48 0) (li48_0.build x) (rnd li48_0 lo48_0) := fun c51 x => by kernel_rfl
theorem linner48_2 : ∀ Z : Zn, Z.rl = [] → 135 ≤ Z.nt → ∀ p ∈ loops 2 (loopAt Try.f48 1), ∀ C, (tabL []) p.1 = some C → LoopOK κ Try.prog Z p.2 C := fun Z h n => fun p hp => (by cases (show p ∈ ([] : List (Nat × Code)) from hp))
theorem lk48_2 : ∀ Z : Zn, Z.rl = [] → 135 ≤ Z.nt → LoopOK κ Try.prog Z (loopAt Try.f48 1) L48_2 := fun Z h n => loop_ok (S := (tabL [])) R48_2 (by kernel_rfl) g48 (by rw [h]; exact dsts_mono n _ (by kernel_rfl)) (linner48_2 Z h n) (by kernel_rfl) (by kernel_rfl) (le48_2 N51) itrs_rounds
theorem linner48_0 : ∀ Z : Zn, Z.rl = [] → 135 ≤ Z.nt → ∀ p ∈ loops 0 (loopAt Try.f48 0), ∀ C, (tabL []) p.1 = some C → LoopOK κ Try.prog Z p.2 C := fun Z h n => fun p hp => (by cases (show p ∈ ([] : List (Nat × Code)) from hp))
theorem lk48_0 : ∀ Z : Zn, Z.rl = [] → 135 ≤ Z.nt → LoopOK κ Try.prog Z (loopAt Try.f48 0) L48_0 := fun Z h n => loop_ok (S := (tabL [])) R48_0 (by kernel_rfl) g48 (by rw [h]; exact dsts_mono n _ (by kernel_rfl)) (linner48_0 Z h n) (by kernel_rfl) (by kernel_rfl) (le48_0 N51) itrs_rounds
theorem lall48 : ∀ Z : Zn, Z.rl = C48.o.keeps → Try.f48.ntmps ≤ Z.nt → ∀ p ∈ loops 0 (bodyOf Try.f48), ∀ C, (tabL [(0, L48_0), (2, L48_2)]) p.1 = some C → LoopOK κ Try.prog Z p.2 C := fun Z h n => all_loops [(0, loopAt Try.f48 0), (2, loopAt Try.f48 1)] (by kernel_rfl) (all_cons (fun C hC => (Option.some.inj hC : L48_0 = C) ▸ lk48_0 Z h n) (all_cons (fun C hC => (Option.some.inj hC : L48_2 = C) ▸ lk48_2 Z h n) (fun _ h => by cases h)))
theorem e48 : ∀ (c51 : A51 → Option B51) (l48_0 : LA48_0 → Option LB48_0) (l48_2 : LA48_2 → Option LB48_2) x, M48 c51 l48_0 l48_2 x = fnE Try.prog κ (G48 c51) (tabL [(0, (⟨li48_0, l48_0, lo48_0⟩ : Lc τ)), (2, (⟨li48_2, l48_2, lo48_2⟩ : Lc τ))]) Try.f48 i48 o48 x := fun c51 l48_0 l48_2 x => by kernel_rfl
theorem s48 : Sound κ Try.prog C48 48 := fn_sound (S := (tabL [(0, L48_0), (2, L48_2)])) (F := Try.f48) (code := bodyOf Try.f48) (by kernel_rfl) g48 Try.func48 (by kernel_rfl) (by kernel_rfl) (by kernel_rfl) lall48 (by kernel_rfl) (by kernel_rfl) fun x y h => (e48 N51 (itrs R48_0) (itrs R48_2) x).symm.trans h
end Go.Proofs.Ytieeaicdpdidpaa.E
namespace Go.Proofs.Ytieeaicdpdidpaa.E
open Go
set_option linter.unusedVariables false
set_option maxRecDepth 100000
abbrev A33 : Type := (Int × Int × Int × Int × Unit)
abbrev B33 : Type := (Int × Int × Int × Int × Unit)
def i33 : Fr τ A33 := (.val 0 (.int .u64) (.val 1 (.int .u64) (.val 2 (.int .u64) (.val 3 (.int .u64) .nil))))
def o33 : Fr τ B33 := (.val 1000 (.int .u64) (.val 1001 (.int .u64) (.val 1002 (.int .u64) (.val 1003 (.int .u64) .nil))))
def G33 (c48 : A48 → Option B48) (c42 : (Int × Int × Int × Unit) → Option (Int × Int × Unit)) : Nat → Option (Ctr τ) := tabG [(48, (⟨i48, o48, c48⟩ : Ctr τ)), (42, ({ (cSub64 (τ := τ)) with f := c42 } : Ctr τ))]
abbrev LA33_0 : Type := (Int × Int × Int × Int × Int × Int × Int × Unit)
abbrev LB33_0 : Type := (Int × Int × Int × Unit)
def li33_0 : Fr τ LA33_0 := (.val 1 (.int .u64) (.val 2 (.int .u64) (.val 3 (.int .u64) (.val 9 (.int .u64) (.val 10 (.int .u64) (.val 11 (.int .u64) (.val 12 (.int .i64) .nil)))))))
def lo33_0 : Ot τ LB33_0 := .one (.exit 0) (.val 9 (.int .u64) (.val 10 (.int .u64) (.val 11 (.int .u64) .nil)))
def Q33_0 (c48 : A48 → Option B48) (c42 : (Int × Int × Int × Unit) → Option (Int × Int × Unit)) : LA33_0 → Option (LA33_0 ⊕ LB33_0) := fun ⟨al', ⟨bh', ⟨bl', ⟨ql', ⟨rh', ⟨rl', ⟨i', ()⟩⟩⟩⟩⟩⟩⟩ => (bif decide (i' ≥ 0) then ((bif decide (0 ≤ i') then some () else none).bind fun () => (let v0 : Int := rh' * 2; let v1 : Int := IntKind.wrap IntKind.u64 v0; let v2 : Int := Int.fdiv rl' 9223372036854775808; let v3 : Int := ↑(BitVec.toNat (BitVec.ofInt 64 v1 ||| BitVec.ofInt 64 v2)); let v4 : Int := IntKind.wrap IntKind.u64 v3; bif decide (v4 > bh') then (let v5 : Int := rl' * 2; let v6 : Int := IntKind.wrap IntKind.u64 v5; let v7 : Int := Int.fdiv al' (2 ^ min (Int.toNat i') 64); let v8 : Int := ↑(BitVec.toNat (BitVec.ofInt 64 v7 &&& BitVec.ofInt 64 1)); let v9 : Int := IntKind.wrap IntKind.u64 v8; let v10 : Int := ↑(BitVec.toNat (BitVec.ofInt 64 v6 ||| BitVec.ofInt 64 v9)); let v11 : Int := IntKind.wrap IntKind.u64 v10; (c42 (v11, (bl', (0, ())))).bind fun ⟨y3_0, ⟨y3_1, ()⟩⟩ => ((c42 (v4, (bh', (y3_1, ())))).bind fun ⟨y4_0, ⟨y4_1, ()⟩⟩ => ((bif decide (0 ≤ i') then some () else none).bind fun () => (let v12 : Int := 1 * 2 ^ min (Int.toNat i') 64; let v13 : Int := IntKind.wrap IntKind.u64 v12; let v14 : Int := ↑(BitVec.toNat (BitVec.ofInt 64 ql' ||| BitVec.ofInt 64 v13)); let v15 : Int := IntKind.wrap IntKind.u64 v14; let v16 : Int := i' - 1; let v17 : Int := IntKind.wrap IntKind.i64 v16; some (.inl (al', (bh', (bl', (v15, (y4_0, (y3_0, (v17, ())))))))))))) else (bif v4 == bh' then (let v5 : Int := rl' * 2; let v6 : Int := IntKind.wrap IntKind.u64 v5; let v7 : Int := Int.fdiv al' (2 ^ min (Int.toNat i') 64); let v8 : Int := ↑(BitVec.toNat (BitVec.ofInt 64 v7 &&& BitVec.ofInt 64 1)); let v9 : Int := IntKind.wrap IntKind.u64 v8; let v10 : Int := ↑(BitVec.toNat (BitVec.ofInt 64 v6 ||| BitVec.ofInt 64 v9)); let v11 : Int := IntKind.wrap IntKind.u64 v10; bif decide (v11 ≥ bl') then ((c42 (v11, (bl', (0, ())))).bind fun ⟨y5_0, ⟨y5_1, ()⟩⟩ => ((c42 (v4, (bh', (y5_1, ())))).bind fun ⟨y6_0, ⟨y6_1, ()⟩⟩ => ((bif decide (0 ≤ i') then some () else none).bind fun () => (let v12 : Int := 1 * 2 ^ min (Int.toNat i') 64; let v13 : Int := IntKind.wrap IntKind.u64 v12; let v14 : Int := ↑(BitVec.toNat (BitVec.ofInt 64 ql' ||| BitVec.ofInt 64 v13)); let v15 : Int := IntKind.wrap IntKind.u64 v14; let v16 : Int := i' - 1; let v17 : Int := IntKind.wrap IntKind.i64 v16; some (.inl (al', (bh', (bl', (v15, (y6_0, (y5_0, (v17, ())))))))))))) else (let v12 : Int := i' - 1; let v13 : Int := IntKind.wrap IntKind.i64 v12; some (.inl (al', (bh', (bl', (ql', (v4, (v11, (v13, ())))))))))) else (let v5 : Int := rl' * 2; let v6 : Int := IntKind.wrap IntKind.u64 v5; let v7 : Int := Int.fdiv al' (2 ^ min (Int.toNat i') 64); let v8 : Int := ↑(BitVec.toNat (BitVec.ofInt 64 v7 &&& BitVec.ofInt 64 1)); let v9 : Int := IntKind.wrap IntKind.u64 v8; let v10 : Int := ↑(BitVec.toNat (BitVec.ofInt 64 v6 ||| BitVec.ofInt 64 v9)); let v11 : Int := IntKind.wrap IntKind.u64 v10; let v12 : Int := i' - 1; let v13 : Int := IntKind.wrap IntKind.i64 v12; some (.inl (al', (bh', (bl', (ql', (v4, (v11, (v13, ())))))))))))) else (some (.inr (ql', (rh', (rl', ()))))))
def R33_0 : LA33_0 → Option (LA33_0 ⊕ LB33_0) := Q33_0 N48 (cSub64 (τ := τ)).f
def L33_0 : Lc τ := ⟨li33_0, itrs R33_0, lo33_0⟩
def M33 (c48 : A48 → Option B48) (c42 : (Int × Int × Int × Unit) → Option (Int × Int × Unit)) (l33_0 : LA33_0 → Option LB33_0) : A33 → Option B33 := fun ⟨ah', ⟨al', ⟨bh', ⟨bl', ()⟩⟩⟩⟩ => (bif bh' == 0 then ((bif !bl' == 0 then some () else none).bind fun () => ((bif !bl' == 0 then some () else none).bind fun () => (let v0 : Int := Int.tmod ah' bl'; (c48 (v0, (al', (bl', ())))).bind fun ⟨y3_0, ⟨y3_1, ()⟩⟩ => (let v1 : Int := Int.tdiv ah' bl'; let v2 : Int := IntKind.wrap IntKind.u64 v1; some (v2, (y3_0, (0, (y3_1, ())))))))) else ((l33_0 (al', (bh', (bl', (0, (0, (ah', (63, ())))))))).bind fun ⟨y1_0, ⟨y1_1, ⟨y1_2, ()⟩⟩⟩ => (some (0, (y1_0, (y1_1, (y1_2, ())))))))
def N33 : A33 → Option B33 := M33 N48 (cSub64 (τ := τ)).f (itrs R33_0)
def C33 : Ctr τ := ⟨i33, o33, N33⟩
theorem t33_42 : Sound κ Try.prog cSub64 42 := sub64_sound Try.func42 (by kernel_rfl) (by kernel_rfl) (by kernel_rfl) (by kernel_rfl)
theorem g33 : GOK κ Try.prog (G33 N48 (cSub64 (τ := τ)).f) := (gok_cons s48 (gok_cons t33_42 gok_nil))
theorem le33_0 : ∀ (c48 : A48 → Option B48) (c42 : (Int × Int × Int × Unit) → Option (Int × Int × Unit)) x, Q33_0 c48 c42 x = run Try.prog κ (G33 c48 c42) (tabL []) 0 (loopAt Try.f33 0) (li33_0.build x) (rnd li33_0 lo33_0) := fun c48 c42 x => by kernel_rfl
theorem linner33_0 : ∀ Z : Zn, Z.rl = [] → 82 ≤ Z.nt → ∀ p ∈ loops 0 (loopAt Try.f33 0), ∀ C, (tabL []) p.1 = some C → LoopOK κ Try.prog Z p.2 C := fun Z h n => fun p hp => (by cases (show p ∈ ([] : List (Nat × Code)) from hp))
theorem lk33_0 : ∀ Z : Zn, Z.rl = [] → 82 ≤ Z.nt → LoopOK κ Try.prog Z (loopAt Try.f33 0) L33_0 := fun Z h n => loop_ok (S := (tabL [])) R33_0 (by kernel_rfl) g33 (by rw [h]; exact dsts_mono n _ (by kernel_rfl)) (linner33_0 Z h n) (by kernel_rfl) (by kernel_rfl) (le33_0 N48 (cSub64 (τ := τ)).f) itrs_rounds
theorem lall33 : ∀ Z : Zn, Z.rl = C33.o.keeps → Try.f33.ntmps ≤ Z.nt → ∀ p ∈ loops 0 (bodyOf Try.f33), ∀ C, (tabL [(0, L33_0)]) p.1 = some C → LoopOK κ Try.prog Z p.2 C := fun Z h n => all_loops [(0, loopAt Try.f33 0)] (by kernel_rfl) (all_cons (fun C hC => (Option.some.inj hC : L33_0 = C) ▸ lk33_0 Z h n) (fun _ h => by cases h))
theorem e33 : ∀ (c48 : A48 → Option B48) (c42 : (Int × Int × Int × Unit) → Option (Int × Int × Unit)) (l33_0 : LA33_0 → Option LB33_0) x, M33 c48 c42 l33_0 x = fnE Try.prog κ (G33 c48 c42) (tabL [(0, (⟨li33_0, l33_0, lo33_0⟩ : Lc τ))]) Try.f33 i33 o33 x := fun c48 c42 l33_0 x => by kernel_rfl
theorem s33 : Sound κ Try.prog C33 33 := fn_sound (S := (tabL [(0, L33_0)])) (F := Try.f33) (code := bodyOf Try.f33) (by kernel_rfl) g33 Try.func33 (by kernel_rfl) (by kernel_rfl) (by kernel_rfl) lall33 (by kernel_rfl) (by kernel_rfl) fun x y h => (e33 N48 (cSub64 (τ := τ)).f (itrs R33_0) x).symm.trans h
end Go.Proofs.Ytieeaicdpdidpaa.E
namespace Go.Proofs.Ytieeaicdpdidpaa.E
open Go
set_option linter.unusedVariables false
set_option maxRecDepth 100000
abbrev A14 : Type := ((Int × Int) × (Int × Int) × Unit)
abbrev B14 : Type := ((Int × Int) × (Int × Int) × Int × Unit)
def i14 : Fr τ A14 := (.val 0 (.pair (.int .i64) (.int .u64)) (.val 1 (.pair (.int .i64) (.int .u64)) .nil))
def o14 : Fr τ B14 := (.val 1000 (.pair (.int .i64) (.int .u64)) (.val 1001 (.pair (.int .i64) (.int .u64)) (.val 1002 (.int .i64) .nil)))
def G14 (c25 : A25 → Option B25) (c33 : A33 → Option B33) (c29 : A29 → Option B29) : Nat → Option (Ctr τ) := tabG [(25, (⟨i25, o25, c25⟩ : Ctr τ)), (33, (⟨i33, o33, c33⟩ : Ctr τ)), (29, (⟨i29, o29, c29⟩ : Ctr τ))]
def M14 (c25 : A25 → Option B25) (c33 : A33 → Option B33) (c29 : A29 → Option B29) : A14 → Option B14 := fun ⟨⟨a'_0, a'_1⟩, ⟨⟨b'_0, b'_1⟩, ()⟩⟩ => (bif b'_0 == 0 && b'_1 == 0 then (some ((0, 0), ((0, 0), (20, ())))) else ((c25 ((a'_0, a'_1), ())).bind fun ⟨y1_0, ⟨y1_1, ()⟩⟩ => ((c25 ((b'_0, b'_1), ())).bind fun ⟨y2_0, ⟨y2_1, ()⟩⟩ => ((c33 (y1_0, (y1_1, (y2_0, (y2_1, ()))))).bind fun ⟨y3_0, ⟨y3_1, ⟨y3_2, ⟨y3_3, ()⟩⟩⟩⟩ => ((c29 (!decide (a'_0 < 0) == decide (b'_0 < 0), (y3_0, (y3_1, ())))).bind fun ⟨⟨y4_0, y4_1⟩, ⟨y4_2, ()⟩⟩ => (bif y4_2 != 0 then (some ((0, 0), ((0, 0), (y4_2, ())))) else ((c29 (decide (a'_0 < 0), (y3_2, (y3_3, ())))).bind fun ⟨⟨y6_0, y6_1⟩, ⟨y6_2, ()⟩⟩ => (some ((y4_0, y4_1), ((y6_0, y6_1), (y6_2, ())))))))))))
def N14 : A14 → Option B14 := M14 N25 N33 N29
def C14 : Ctr τ := ⟨i14, o14, N14⟩
theorem g14 : GOK κ Try.prog (G14 N25 N33 N29) := (gok_cons s25 (gok_cons s33 (gok_cons s29 gok_nil)))
theorem lall14 : ∀ Z : Zn, Z.rl = C14.o.keeps → Try.f14.ntmps ≤ Z.nt → ∀ p ∈ loops 0 (bodyOf Try.f14), ∀ C, (tabL []) p.1 = some C → LoopOK κ Try.prog Z p.2 C := fun Z h n => fun p hp => (by cases (show p ∈ ([] : List (Nat × Code)) from hp))
theorem e14 : ∀ (c25 : A25 → Option B25) (c33 : A33 → Option B33) (c29 : A29 → Option B29) x, M14 c25 c33 c29 x = fnE Try.prog κ (G14 c25 c33 c29) (tabL []) Try.f14 i14 o14 x := fun c25 c33 c29 x => by kernel_rfl
theorem s14 : Sound κ Try.prog C14 14 := fn_sound (S := (tabL [])) (F := Try.f14) (code := bodyOf Try.f14) (by kernel_rfl) g14 Try.func14 (by kernel_rfl) (by kernel_rfl) (by kernel_rfl) lall14 (by kernel_rfl) (by kernel_rfl) fun x y h => (e14 N25 N33 N29 x).symm.trans h
end Go.Proofs.Ytieeaicdpdidpaa.E
namespace Go.Proofs.Ytieeaicdpdidpaa.E
open Go
set_option linter.unusedVariables false
set_option maxRecDepth 100000
abbrev A37 : Type := ((Int × Int) × (Int × Int) × (Int × Int) × Int × Unit)
abbrev B37 : Type := (Bool × Unit)
def i37 : Fr τ A37 := (.val 0 (.pair (.int .i64) (.int .u64)) (.val 1 (.pair (.int .i64) (.int .u64)) (.val 2 (.pair (.int .i64) (.int .u64)) (.val 3 (.int .i64) .nil))))
def o37 : Fr τ B37 := (.val 1000 .bool .nil)
def G37 (c25 : A25 → Option B25) (c42 : (Int × Int × Int × Unit) → Option (Int × Int × Unit)) : Nat → Option (Ctr τ) := tabG [(25, (⟨i25, o25, c25⟩ : Ctr τ)), (42, ({ (cSub64 (τ := τ)) with f := c42 } : Ctr τ))]
def M37 (c25 : A25 → Option B25) (c42 : (Int × Int × Int × Unit) → Option (Int × Int × Unit)) : A37 → Option B37 := fun ⟨⟨q'_0, q'_1⟩, ⟨⟨r'_0, r'_1⟩, ⟨⟨b'_0, b'_1⟩, ⟨mode', ()⟩⟩⟩⟩ => (bif mode' == 0 then (some (!decide (r'_0 < 0) == decide (b'_0 < 0), ())) else (bif mode' == 1 then (some (!!decide (r'_0 < 0) == decide (b'_0 < 0), ())) else (bif mode' == 2 then (some (false, ())) else ((c25 ((r'_0, r'_1), ())).bind fun ⟨y3_0, ⟨y3_1, ()⟩⟩ => ((c25 ((b'_0, b'_1), ())).bind fun ⟨y4_0, ⟨y4_1, ()⟩⟩ => ((c42 (y4_1, (y3_1, (0, ())))).bind fun ⟨y5_0, ⟨y5_1, ()⟩⟩ => ((c42 (y4_0, (y3_0, (y5_1, ())))).bind fun ⟨y6_0, ⟨y6_1, ()⟩⟩ => (bif decide (y3_0 > y6_0) then (some (true, ())) else (bif y3_0 == y6_0 then (bif decide (y3_1 > y5_0) then (some (true, ())) else (bif y3_0 == y6_0 then (bif y3_1 == y5_0 then (bif mode' == 3 then (some (true, ())) else (let v0 : Int := ↑(BitVec.toNat (BitVec.ofInt 64 q'_1 &&& BitVec.ofInt 64 1)); let v1 : Int := IntKind.wrap IntKind.u64 v0; some (v1 == 1, ()))) else (some (false, ()))) else (some (false, ())))) else (bif y3_0 == y6_0 then (bif y3_1 == y5_0 then (bif mode' == 3 then (some (true, ())) else (let v0 : Int := ↑(BitVec.toNat (BitVec.ofInt 64 q'_1 &&& BitVec.ofInt 64 1)); let v1 : Int := IntKind.wrap IntKind.u64 v0; some (v1 == 1, ()))) else (some (false, ()))) else (some (false, ()))))))))))))
def N37 : A37 → Option B37 := M37 N25 (cSub64 (τ := τ)).f
def C37 : Ctr τ := ⟨i37, o37, N37⟩
theorem t37_42 : Sound κ Try.prog cSub64 42 := sub64_sound Try.func42 (by kernel_rfl) (by kernel_rfl) (by kernel_rfl) (by kernel_rfl)
theorem g37 : GOK κ Try.prog (G37 N25 (cSub64 (τ := τ)).f) := (gok_cons s25 (gok_cons t37_42 gok_nil))
theorem lall37 : ∀ Z : Zn, Z.rl = C37.o.keeps → Try.f37.ntmps ≤ Z.nt → ∀ p ∈ loops 0 (bodyOf Try.f37), ∀ C, (tabL []) p.1 = some C → LoopOK κ Try.prog Z p.2 C := fun Z h n => fun p hp => (by cases (show p ∈ ([] : List (Nat × Code)) from hp))
theorem e37 : ∀ (c25 : A25 → Option B25) (c42 : (Int × Int × Int × Unit) → Option (Int × Int × Unit)) x, M37 c25 c42 x = fnE Try.prog κ (G37 c25 c42) (tabL []) Try.f37 i37 o37 x := fun c25 c42 x => by kernel_rfl
theorem s37 : Sound κ Try.prog C37 37 := fn_sound (S := (tabL [])) (F := Try.f37) (code := bodyOf Try.f37) (by kernel_rfl) g37 Try.func37 (by kernel_rfl) (by kernel_rfl) (by kernel_rfl) lall37 (by kernel_rfl) (by kernel_rfl) fun x y h => (e37 N25 (cSub64 (τ := τ)).f x).symm.trans h
end Go.Proofs.Ytieeaicdpdidpaa.E
namespace Go.Proofs.Ytieeaicdpdidpaa.E
open Go
set_option linter.unusedVariables false
set_option maxRecDepth 100000
abbrev A21 : Type := ((Int × Int) × (Int × Int) × Unit)
abbrev B21 : Type := ((Int × Int) × Int × Unit)
def i21 : Fr τ A21 := (.val 0 (.pair (.int .i64) (.int .u64)) (.val 1 (.pair (.int .i64) (.int .u64)) .nil))
def o21 : Fr τ B21 := (.val 1000 (.pair (.int .i64) (.int .u64)) (.val 1001 (.int .i64) .nil))
def G21 (c28 : (Int × Int × Int × Unit) → Option (Int × Int × Unit)) : Nat → Option (Ctr τ) := tabG [(28, ({ (cAdd64 (τ := τ)) with f := c28 } : Ctr τ))]
def M21 (c28 : (Int × Int × Int × Unit) → Option (Int × Int × Unit)) : A21 → Option B21 := fun ⟨⟨a'_0, a'_1⟩, ⟨⟨b'_0, b'_1⟩, ()⟩⟩ => ((c28 (a'_1, (b'_1, (0, ())))).bind fun ⟨y0_0, ⟨y0_1, ()⟩⟩ => (let v0 : Int := IntKind.wrap IntKind.u64 a'_0; let v1 : Int := IntKind.wrap IntKind.u64 b'_0; (c28 (v0, (v1, (y0_1, ())))).bind fun ⟨y1_0, ⟨y1_1, ()⟩⟩ => (bif decide (a'_0 < 0) == decide (b'_0 < 0) then (let v2 : Int := IntKind.wrap IntKind.i64 y1_0; bif !decide (v2 < 0) == decide (a'_0 < 0) then (some ((0, 0), (10, ()))) else (some ((v2, y0_0), (0, ())))) else (let v2 : Int := IntKind.wrap IntKind.i64 y1_0; some ((v2, y0_0), (0, ()))))))
def N21 : A21 → Option B21 := M21 (cAdd64 (τ := τ)).f
def C21 : Ctr τ := ⟨i21, o21, N21⟩
theorem t21_28 : Sound κ Try.prog cAdd64 28 := add64_sound Try.func28 (by kernel_rfl) (by kernel_rfl) (by kernel_rfl) (by kernel_rfl)
theorem g21 : GOK κ Try.prog (G21 (cAdd64 (τ := τ)).f) := (gok_cons t21_28 gok_nil)
theorem lall21 : ∀ Z : Zn, Z.rl = C21.o.keeps → Try.f21.ntmps ≤ Z.nt → ∀ p ∈ loops 0 (bodyOf Try.f21), ∀ C, (tabL []) p.1 = some C → LoopOK κ Try.prog Z p.2 C := fun Z h n => fun p hp => (by cases (show p ∈ ([] : List (Nat × Code)) from hp))
theorem e21 : ∀ (c28 : (Int × Int × Int × Unit) → Option (Int × Int × Unit)) x, M21 c28 x = fnE Try.prog κ (G21 c28) (tabL []) Try.f21 i21 o21 x := fun c28 x => by kernel_rfl
theorem s21 : Sound κ Try.prog C21 21 := fn_sound (S := (tabL [])) (F := Try.f21) (code := bodyOf Try.f21) (by kernel_rfl) g21 Try.func21 (by kernel_rfl) (by kernel_rfl) (by kernel_rfl) lall21 (by kernel_rfl) (by kernel_rfl) fun x y h => (e21 (cAdd64 (τ := τ)).f x).symm.trans h
end Go.Proofs.Ytieeaicdpdidpaa.E
namespace Go.Proofs.Ytieeaicdpdidpaa.E
open Go
set_option linter.unusedVariables false
set_option maxRecDepth 100000
abbrev A16 : Type := ((Int × Int) × (Int × Int) × Int × Unit)
abbrev B16 : Type := ((Int × Int) × Int × Unit)
def i16 : Fr τ A16 := (.val 0 (.pair (.int .i64) (.int .u64)) (.val 1 (.pair (.int .i64) (.int .u64)) (.val 2 (.int .i64) .nil)))
def o16 : Fr τ B16 := (.val 1000 (.pair (.int .i64) (.int .u64)) (.val 1001 (.int .i64) .nil))
def G16 (c14 : A14 → Option B14) (c37 : A37 → Option B37) (c20 : A20 → Option B20) (c24 : A24 → Option B24) (c21 : A21 → Option B21) : Nat → Option (Ctr τ) := tabG [(14, (⟨i14, o14, c14⟩ : Ctr τ)), (37, (⟨i37, o37, c37⟩ : Ctr τ)), (20, (⟨i20, o20, c20⟩ : Ctr τ)), (24, (⟨i24, o24, c24⟩ : Ctr τ)), (21, (⟨i21, o21, c21⟩ : Ctr τ))]
def M16 (c14 : A14 → Option B14) (c37 : A37 → Option B37) (c20 : A20 → Option B20) (c24 : A24 → Option B24) (c21 : A21 → Option B21) : A16 → Option B16 := fun ⟨⟨a'_0, a'_1⟩, ⟨⟨b'_0, b'_1⟩, ⟨mode', ()⟩⟩⟩ => (bif decide (mode' < 0) then (some ((0, 0), (1, ()))) else (bif decide (mode' > 4) then (some ((0, 0), (1, ()))) else ((c14 ((a'_0, a'_1), ((b'_0, b'_1), ()))).bind fun ⟨⟨y2_0, y2_1⟩, ⟨⟨y2_2, y2_3⟩, ⟨y2_4, ()⟩⟩⟩ => (bif y2_4 != 0 then (some ((y2_0, y2_1), (y2_4, ()))) else (bif y2_2 == 0 && y2_3 == 0 then (some ((y2_0, y2_1), (y2_4, ()))) else ((c37 ((y2_0, y2_1), ((y2_2, y2_3), ((b'_0, b'_1), (mode', ()))))).bind fun ⟨y5, ()⟩ => (bif !y5 then (some ((y2_0, y2_1), (y2_4, ()))) else (bif !decide (a'_0 < 0) == decide (b'_0 < 0) then ((c20 (1, ())).bind fun ⟨⟨y8_0, y8_1⟩, ()⟩ => ((c24 ((y2_0, y2_1), ((y8_0, y8_1), ()))).bind fun ⟨⟨y9_0, y9_1⟩, ⟨y9_2, ()⟩⟩ => (some ((y9_0, y9_1), (y9_2, ()))))) else ((c20 (1, ())).bind fun ⟨⟨y8_0, y8_1⟩, ()⟩ => ((c21 ((y2_0, y2_1), ((y8_0, y8_1), ()))).bind fun ⟨⟨y9_0, y9_1⟩, ⟨y9_2, ()⟩⟩ => (some ((y9_0, y9_1), (y9_2, ())))))))))))))
def N16 : A16 → Option B16 := M16 N14 N37 N20 N24 N21
def C16 : Ctr τ := ⟨i16, o16, N16⟩
theorem g16 : GOK κ Try.prog (G16 N14 N37 N20 N24 N21) := (gok_cons s14 (gok_cons s37 (gok_cons s20 (gok_cons s24 (gok_cons s21 gok_nil)))))
theorem lall16 : ∀ Z : Zn, Z.rl = C16.o.keeps → Try.f16.ntmps ≤ Z.nt → ∀ p ∈ loops 0 (bodyOf Try.f16), ∀ C, (tabL []) p.1 = some C → LoopOK κ Try.prog Z p.2 C := fun Z h n => fun p hp => (by cases (show p ∈ ([] : List (Nat × Code)) from hp))
theorem e16 : ∀ (c14 : A14 → Option B14) (c37 : A37 → Option B37) (c20 : A20 → Option B20) (c24 : A24 → Option B24) (c21 : A21 → Option B21) x, M16 c14 c37 c20 c24 c21 x = fnE Try.prog κ (G16 c14 c37 c20 c24 c21) (tabL []) Try.f16 i16 o16 x := fun c14 c37 c20 c24 c21 x => by kernel_rfl
theorem s16 : Sound κ Try.prog C16 16 := fn_sound (S := (tabL [])) (F := Try.f16) (code := bodyOf Try.f16) (by kernel_rfl) g16 Try.func16 (by kernel_rfl) (by kernel_rfl) (by kernel_rfl) lall16 (by kernel_rfl) (by kernel_rfl) fun x y h => (e16 N14 N37 N20 N24 N21 x).symm.trans h
end Go.Proofs.Ytieeaicdpdidpaa.E
namespace Go.Proofs.Ytieeaicdpdidpaa.E
open Go
set_option linter.unusedVariables false
set_option maxRecDepth 100000
abbrev A18 : Type := (Int × Unit)
abbrev B18 : Type := ((Int × Int) × Int × Unit)
def i18 : Fr τ A18 := (.val 0 (.int .i64) .nil)
def o18 : Fr τ B18 := (.val 1000 (.pair (.int .i64) (.int .u64)) (.val 1001 (.int .i64) .nil))
def G18 (c20 : A20 → Option B20) (c12 : A12 → Option B12) : Nat → Option (Ctr τ) := tabG [(20, (⟨i20, o20, c20⟩ : Ctr τ)), (12, (⟨i12, o12, c12⟩ : Ctr τ))]
abbrev LA18_0 : Type := ((Int × (Int × Unit)) × (Int × (Int × Unit)) × Int × Int × Unit)
abbrev LB18_0 : Type := ((Int × (Int × Unit)) × (Int × (Int × Unit)) × Unit)
def li18_0 : Fr τ LA18_0 := (.ptr 2 none 26 (.val (.int .i64) (.val (.int .u64) .nil)) (.ptr 4 none 26 (.val (.int .i64) (.val (.int .u64) .nil)) (.val 12 (.int .i64) (.val 13 (.int .i64) .nil))))
def lo18_0 : Ot τ LB18_0 := .one (.exit 0) (.ptr 2 none 26 (.val (.int .i64) (.val (.int .u64) .nil)) (.ptr 4 none 26 (.val (.int .i64) (.val (.int .u64) .nil)) .nil))
def Q18_0 (c20 : A20 → Option B20) (c12 : A12 → Option B12) : LA18_0 → Option (LA18_0 ⊕ LB18_0) := fun ⟨⟨t2'_0, ⟨t2'_1, ()⟩⟩, ⟨⟨p'_0, ⟨p'_1, ()⟩⟩, ⟨t12', ⟨t13', ()⟩⟩⟩⟩ => (bif decide (t13' < t12') then ((c20 (10000, ())).bind fun ⟨⟨y1_0, y1_1⟩, ()⟩ => ((c12 ((p'_0, p'_1), ((y1_0, y1_1), ()))).bind fun ⟨⟨y2_0, y2_1⟩, ⟨y2_2, ()⟩⟩ => (let v0 : Int := t13' + 1; let v1 : Int := IntKind.wrap IntKind.i64 v0; some (.inl ((t2'_0, (t2'_1, ())), ((y2_0, (y2_1, ())), (t12', (v1, ())))))))) else (some (.inr ((t2'_0, (t2'_1, ())), ((p'_0, (p'_1, ())), ())))))
def R18_0 : LA18_0 → Option (LA18_0 ⊕ LB18_0) := Q18_0 N20 N12
def L18_0 : Lc τ := ⟨li18_0, itrs R18_0, lo18_0⟩
def M18 (c20 : A20 → Option B20) (c12 : A12 → Option B12) (l18_0 : LA18_0 → Option LB18_0) : A18 → Option B18 := fun ⟨k', ()⟩ => (bif decide (k' < 0) then (some ((0, 0), (1, ()))) else (bif decide (k' > 9) then (some ((0, 0), (10, ()))) else ((c20 (1, ())).bind fun ⟨⟨y2_0, y2_1⟩, ()⟩ => ((l18_0 ((0, (0, ())), ((y2_0, (y2_1, ())), (k', (0, ()))))).bind fun ⟨⟨y3_0, ⟨y3_1, ()⟩⟩, ⟨⟨y3_2, ⟨y3_3, ()⟩⟩, ()⟩⟩ => (some ((y3_2, y3_3), (0, ())))))))
def N18 : A18 → Option B18 := M18 N20 N12 (itrs R18_0)
def C18 : Ctr τ := ⟨i18, o18, N18⟩
theorem g18 : GOK κ Try.prog (G18 N20 N12) := (gok_cons s20 (gok_cons s12 gok_nil))
theorem le18_0 : ∀ (c20 : A20 → Option B20) (c12 : A12 → Option B12) x, Q18_0 c20 c12 x = run Try.prog κ (G18 c20 c12) (tabL []) 0 (loopAt Try.f18 0) (li18_0.build x) (rnd li18_0 lo18_0) := fun c20 c12 x => by kernel_rfl
theorem linner18_0 : ∀ Z : Zn, Z.rl = [] → 23 ≤ Z.nt → ∀ p ∈ loops 0 (loopAt Try.f18 0), ∀ C, (tabL []) p.1 = some C → LoopOK κ Try.prog Z p.2 C := fun Z h n => fun p hp => (by cases (show p ∈ ([] : List (Nat × Code)) from hp))
theorem lk18_0 : ∀ Z : Zn, Z.rl = [] → 23 ≤ Z.nt → LoopOK κ Try.prog Z (loopAt Try.f18 0) L18_0 := fun Z h n => loop_ok (S := (tabL [])) R18_0 (by kernel_rfl) g18 (by rw [h]; exact dsts_mono n _ (by kernel_rfl)) (linner18_0 Z h n) (by kernel_rfl) (by kernel_rfl) (le18_0 N20 N12) itrs_rounds
theorem lall18 : ∀ Z : Zn, Z.rl = C18.o.keeps → Try.f18.ntmps ≤ Z.nt → ∀ p ∈ loops 0 (bodyOf Try.f18), ∀ C, (tabL [(0, L18_0)]) p.1 = some C → LoopOK κ Try.prog Z p.2 C := fun Z h n => all_loops [(0, loopAt Try.f18 0)] (by kernel_rfl) (all_cons (fun C hC => (Option.some.inj hC : L18_0 = C) ▸ lk18_0 Z h n) (fun _ h => by cases h))
theorem e18 : ∀ (c20 : A20 → Option B20) (c12 : A12 → Option B12) (l18_0 : LA18_0 → Option LB18_0) x, M18 c20 c12 l18_0 x = fnE Try.prog κ (G18 c20 c12) (tabL [(0, (⟨li18_0, l18_0, lo18_0⟩ : Lc τ))]) Try.f18 i18 o18 x := fun c20 c12 l18_0 x => by kernel_rfl
theorem s18 : Sound κ Try.prog C18 18 := fn_sound (S := (tabL [(0, L18_0)])) (F := Try.f18) (code := bodyOf Try.f18) (by kernel_rfl) g18 Try.func18 (by kernel_rfl) (by kernel_rfl) (by kernel_rfl) lall18 (by kernel_rfl) (by kernel_rfl) fun x y h => (e18 N20 N12 (itrs R18_0) x).symm.trans h
end Go.Proofs.Ytieeaicdpdidpaa.E
namespace Go.Proofs.Ytieeaicdpdidpaa.E
open Go
set_option linter.unusedVariables false
set_option maxRecDepth 100000
abbrev A11 : Type := (Unit)
abbrev B11 : Type := (Bool × Unit)
def i11 : Fr τ A11 := .nil
def o11 : Fr τ B11 := (.val 1000 .bool .nil)
def G11 (c12 : A12 → Option B12) (c20 : A20 → Option B20) (c16 : A16 → Option B16) (c18 : A18 → Option B18) : Nat → Option (Ctr τ) := tabG [(12, (⟨i12, o12, c12⟩ : Ctr τ)), (20, (⟨i20, o20, c20⟩ : Ctr τ)), (16, (⟨i16, o16, c16⟩ : Ctr τ)), (18, (⟨i18, o18, c18⟩ : Ctr τ))]
def M11 (c12 : A12 → Option B12) (c20 : A20 → Option B20) (c16 : A16 → Option B16) (c18 : A18 → Option B18) : A11 → Option B11 := fun () => ((c12 ((1, 0), ((-1, 9223372036854775808), ()))).bind fun ⟨⟨y0_0, y0_1⟩, ⟨y0_2, ()⟩⟩ => ((c20 (-5, ())).bind fun ⟨⟨y1_0, y1_1⟩, ()⟩ => ((c20 (2, ())).bind fun ⟨⟨y2_0, y2_1⟩, ()⟩ => ((c16 ((y1_0, y1_1), ((y2_0, y2_1), (3, ())))).bind fun ⟨⟨y3_0, y3_1⟩, ⟨y3_2, ()⟩⟩ => ((c18 (2, ())).bind fun ⟨⟨y4_0, y4_1⟩, ⟨y4_2, ()⟩⟩ => (bif y0_2 == 0 then (bif y3_2 == 0 then (bif y4_2 == 0 then (bif y0_0 == -9223372036854775808 && y0_1 == 0 then ((c20 (-3, ())).bind fun ⟨⟨y9_0, y9_1⟩, ()⟩ => (bif y3_0 == y9_0 && y3_1 == y9_1 then (some (y4_0 == 0 && y4_1 == 100000000, ())) else (some (false, ())))) else (some (false, ()))) else (some (false, ()))) else (some (false, ()))) else (some (false, ()))))))))
def N11 : A11 → Option B11 := M11 N12 N20 N16 N18
def C11 : Ctr τ := ⟨i11, o11, N11⟩
theorem g11 : GOK κ Try.prog (G11 N12 N20 N16 N18) := (gok_cons s12 (gok_cons s20 (gok_cons s16 (gok_cons s18 gok_nil))))
theorem lall11 : ∀ Z : Zn, Z.rl = C11.o.keeps → Try.f11.ntmps ≤ Z.nt → ∀ p ∈ loops 0 (bodyOf Try.f11), ∀ C, (tabL []) p.1 = some C → LoopOK κ Try.prog Z p.2 C := fun Z h n => fun p hp => (by cases (show p ∈ ([] : List (Nat × Code)) from hp))
theorem e11 : ∀ (c12 : A12 → Option B12) (c20 : A20 → Option B20) (c16 : A16 → Option B16) (c18 : A18 → Option B18) x, M11 c12 c20 c16 c18 x = fnE Try.prog κ (G11 c12 c20 c16 c18) (tabL []) Try.f11 i11 o11 x := fun c12 c20 c16 c18 x => by kernel_rfl
theorem s11 : Sound κ Try.prog C11 11 := fn_sound (S := (tabL [])) (F := Try.f11) (code := bodyOf Try.f11) (by kernel_rfl) g11 Try.func11 (by kernel_rfl) (by kernel_rfl) (by kernel_rfl) lall11 (by kernel_rfl) (by kernel_rfl) fun x y h => (e11 N12 N20 N16 N18 x).symm.trans h
end Go.Proofs.Ytieeaicdpdidpaa.E
namespace Go.Proofs.Ytieeaicdpdidpaa.E
open Go
set_option linter.unusedVariables false
set_option maxRecDepth 100000
abbrev A44 : Type := ((Int × Int) × Unit)
abbrev B44 : Type := (List Int × Unit)
def i44 : Fr τ A44 := (.val 0 (.pair (.int .i64) (.int .u64)) .nil)
def o44 : Fr τ B44 := (.arr 1000 12 .u64 .nil)
def G44 : Nat → Option (Ctr τ) := tabG []
abbrev LA44_2 : Type := (List Int × List Int × Int × Unit)
abbrev LB44_2 : Type := (List Int × List Int × Unit)
def li44_2 : Fr τ LA44_2 := (.aptr 2 12 .u64 (.aptr 3 12 .u64 (.val 5 (.int .i64) .nil)))
def lo44_2 : Ot τ LB44_2 := .one (.exit 2) (.aptr 2 12 .u64 (.aptr 3 12 .u64 .nil))
def Q44_2 : LA44_2 → Option (LA44_2 ⊕ LB44_2) := fun ⟨t2', ⟨l', ⟨i', ()⟩⟩⟩ => (bif decide (i' < 12) then ((bif decide (0 ≤ i') && decide (i' < 12) then some () else none).bind fun () => ((bif Nat.blt (Int.toNat i') 12 then some () else none).bind fun () => (let v0 : Int := i' + 1; let v1 : Int := IntKind.wrap IntKind.i64 v0; some (.inl (t2', (List.set l' (Int.toNat i') 65535, (v1, ()))))))) else (some (.inr (t2', (l', ())))))
def R44_2 : LA44_2 → Option (LA44_2 ⊕ LB44_2) := Q44_2
def L44_2 : Lc τ := ⟨li44_2, itrs R44_2, lo44_2⟩
abbrev LA44_0 : Type := ((Int × (Int × Unit)) × List Int × List Int × Int × Unit)
abbrev LB44_0 : Type := ((Int × (Int × Unit)) × List Int × List Int × Unit)
def li44_0 : Fr τ LA44_0 := (.ptr 1 none 26 (.val (.int .i64) (.val (.int .u64) .nil)) (.aptr 2 12 .u64 (.aptr 3 12 .u64 (.val 4 (.int .i64) .nil))))
def lo44_0 : Ot τ LB44_0 := .one (.exit 0) (.ptr 1 none 26 (.val (.int .i64) (.val (.int .u64) .nil)) (.aptr 2 12 .u64 (.aptr 3 12 .u64 .nil)))
def Q44_0 : LA44_0 → Option (LA44_0 ⊕ LB44_0) := fun ⟨⟨w'_0, ⟨w'_1, ()⟩⟩, ⟨t2', ⟨l', ⟨i', ()⟩⟩⟩⟩ => (bif decide (i' < 4) then (let v0 : Int := 16 * i'; let v1 : Int := IntKind.wrap IntKind.i64 v0; let v2 : Int := IntKind.wrap IntKind.u64 v1; (bif decide (0 ≤ v2) then some () else none).bind fun () => ((bif decide (0 ≤ i') && decide (i' < 12) then some () else none).bind fun () => ((bif Nat.blt (Int.toNat i') 12 then some () else none).bind fun () => ((bif decide (0 ≤ v2) then some () else none).bind fun () => (let v3 : Int := i' + 4; let v4 : Int := IntKind.wrap IntKind.i64 v3; (bif decide (0 ≤ v4) && decide (v4 < 12) then some () else none).bind fun () => ((bif Nat.blt (Int.toNat v4) 12 then some () else none).bind fun () => (let v5 : Int := Int.fdiv w'_1 (2 ^ min (Int.toNat v2) 64); let v6 : Int := Int.tmod v5 65536; let v7 : Int := IntKind.wrap IntKind.u64 w'_0; let v8 : Int := Int.fdiv v7 (2 ^ min (Int.toNat v2) 64); let v9 : Int := Int.tmod v8 65536; let v10 : Int := i' + 1; let v11 : Int := IntKind.wrap IntKind.i64 v10; some (.inl ((w'_0, (w'_1, ())), (t2', (List.set (List.set l' (Int.toNat i') v6) (Int.toNat v4) v9, (v11, ())))))))))))) else (some (.inr ((w'_0, (w'_1, ())), (t2', (l', ()))))))
def R44_0 : LA44_0 → Option (LA44_0 ⊕ LB44_0) := Q44_0
def L44_0 : Lc τ := ⟨li44_0, itrs R44_0, lo44_0⟩
def M44 (l44_0 : LA44_0 → Option LB44_0) (l44_2 : LA44_2 → Option LB44_2) : A44 → Option B44 := fun ⟨⟨w'_0, w'_1⟩, ()⟩ => ((l44_0 ((w'_0, (w'_1, ())), (List.replicate 12 0, (List.replicate 12 0, (0, ()))))).bind fun ⟨⟨y0_0, ⟨y0_1, ()⟩⟩, ⟨y0_2, ⟨y0_3, ()⟩⟩⟩ => (bif decide (y0_0 < 0) then ((l44_2 (y0_2, (y0_3, (8, ())))).bind fun ⟨y2_0, ⟨y2_1, ()⟩⟩ => (some (y2_1, ()))) else (some (y0_3, ()))))
def N44 : A44 → Option B44 := M44 (itrs R44_0) (itrs R44_2)
def C44 : Ctr τ := ⟨i44, o44, N44⟩
theorem g44 : GOK κ Try.prog (G44) := gok_nil
theorem le44_2 : ∀ x, Q44_2 x = run Try.prog κ (G44) (tabL []) 2 (loopAt Try.f44 1) (li44_2.build x) (rnd li44_2 lo44_2) := fun x => by kernel_rfl
theorem le44_0 : ∀ x, Q44_0 x = run Try.prog κ (G44) (tabL []) 0 (loopAt Try.f44 0) (li44_0.build x) (rnd li44_0 lo44_0) := fun x => by kernel_rfl
theorem linner44_2 : ∀ Z : Zn, Z.rl = [] → 40 ≤ Z.nt → ∀ p ∈ loops 2 (loopAt Try.f44 1), ∀ C, (tabL []) p.1 = some C → LoopOK κ Try.prog Z p.2 C := fun Z h n => fun p hp => (by cases (show p ∈ ([] : List (Nat × Code)) from hp))
theorem lk44_2 : ∀ Z : Zn, Z.rl = [] → 40 ≤ Z.nt → LoopOK κ Try.prog Z (loopAt Try.f44 1) L44_2 := fun Z h n => loop_ok (S := (tabL [])) R44_2 (by kernel_rfl) g44 (by rw [h]; exact dsts_mono n _ (by kernel_rfl)) (linner44_2 Z h n) (by kernel_rfl) (by kernel_rfl) (le44_2) itrs_rounds
theorem linner44_0 : ∀ Z : Zn, Z.rl = [] → 40 ≤ Z.nt → ∀ p ∈ loops 0 (loopAt Try.f44 0), ∀ C, (tabL []) p.1 = some C → LoopOK κ Try.prog Z p.2 C := fun Z h n => fun p hp => (by cases (show p ∈ ([] : List (Nat × Code)) from hp))
theorem lk44_0 : ∀ Z : Zn, Z.rl = [] → 40 ≤ Z.nt → LoopOK κ Try.prog Z (loopAt Try.f44 0) L44_0 := fun Z h n => loop_ok (S := (tabL [])) R44_0 (by kernel_rfl) g44 (by rw [h]; exact dsts_mono n _ (by kernel_rfl)) (linner44_0 Z h n) (by kernel_rfl) (by kernel_rfl) (le44_0) itrs_rounds
theorem lall44 : ∀ Z : Zn, Z.rl = C44.o.keeps → Try.f44.ntmps ≤ Z.nt → ∀ p ∈ loops 0 (bodyOf Try.f44), ∀ C, (tabL [(0, L44_0), (2, L44_2)]) p.1 = some C → LoopOK κ Try.prog Z p.2 C := fun Z h n => all_loops [(0, loopAt Try.f44 0), (2, loopAt Try.f44 1)] (by kernel_rfl) (all_cons (fun C hC => (Option.some.inj hC : L44_0 = C) ▸ lk44_0 Z h n) (all_cons (fun C hC => (Option.some.inj hC : L44_2 = C) ▸ lk44_2 Z h n) (fun _ h => by cases h)))
theorem e44 : ∀ (l44_0 : LA44_0 → Option LB44_0) (l44_2 : LA44_2 → Option LB44_2) x, M44 l44_0 l44_2 x = fnE Try.prog κ (G44) (tabL [(0, (⟨li44_0, l44_0, lo44_0⟩ : Lc τ)), (2, (⟨li44_2, l44_2, lo44_2⟩ : Lc τ))]) Try.f44 i44 o44 x := fun l44_0 l44_2 x => by kernel_rfl
theorem s44 : Sound κ Try.prog C44 44 := fn_sound (S := (tabL [(0, L44_0), (2, L44_2)])) (F := Try.f44) (code := bodyOf Try.f44) (by kernel_rfl) g44 Try.func44 (by kernel_rfl) (by kernel_rfl) (by kernel_rfl) lall44 (by kernel_rfl) (by kernel_rfl) fun x y h => (e44 (itrs R44_0) (itrs R44_2) x).symm.trans h
end Go.Proofs.Ytieeaicdpdidpaa.E
namespace Go.Proofs.Ytieeaicdpdidpaa.E
open Go
set_option linter.unusedVariables false
set_option maxRecDepth 100000
abbrev A45 : Type := (List Int × Unit)
abbrev B45 : Type := (Bool × Unit)
def i45 : Fr τ A45 := (.arr 0 12 .u64 .nil)
def o45 : Fr τ B45 := (.val 1000 .bool .nil)
def G45 : Nat → Option (Ctr τ) := tabG []
def M45 : A45 → Option B45 := fun ⟨a', ()⟩ => ((a'[11]?).bind fun y0 => (some (decide (y0 ≥ 32768), ())))
def N45 : A45 → Option B45 := M45
def C45 : Ctr τ := ⟨i45, o45, N45⟩
theorem g45 : GOK κ Try.prog (G45) := gok_nil
theorem lall45 : ∀ Z : Zn, Z.rl = C45.o.keeps → Try.f45.ntmps ≤ Z.nt → ∀ p ∈ loops 0 (bodyOf Try.f45), ∀ C, (tabL []) p.1 = some C → LoopOK κ Try.prog Z p.2 C := fun Z h n => fun p hp => (by cases (show p ∈ ([] : List (Nat × Code)) from hp))
theorem e45 : ∀ x, M45 x = fnE Try.prog κ (G45) (tabL []) Try.f45 i45 o45 x := fun x => by kernel_rfl
theorem s45 : Sound κ Try.prog C45 45 := fn_sound (S := (tabL [])) (F := Try.f45) (code := bodyOf Try.f45) (by kernel_rfl) g45 Try.func45 (by kernel_rfl) (by kernel_rfl) (by kernel_rfl) lall45 (by kernel_rfl) (by kernel_rfl) fun x y h => (e45 x).symm.trans h
end Go.Proofs.Ytieeaicdpdidpaa.E
namespace Go.Proofs.Ytieeaicdpdidpaa.E
open Go
set_option linter.unusedVariables false
set_option maxRecDepth 100000
abbrev A49 : Type := (List Int × List Int × Unit)
abbrev B49 : Type := (List Int × Unit)
def i49 : Fr τ A49 := (.arr 0 12 .u64 (.arr 1 12 .u64 .nil))
def o49 : Fr τ B49 := (.arr 1000 12 .u64 .nil)
def G49 : Nat → Option (Ctr τ) := tabG []
abbrev LA49_0 : Type := (List Int × List Int × List Int × Int × Int × Unit)
abbrev LB49_0 : Type := (List Int × List Int × Unit)
def li49_0 : Fr τ LA49_0 := (.aptr 2 12 .u64 (.aptr 3 12 .u64 (.aptr 4 12 .u64 (.val 5 (.int .u64) (.val 6 (.int .i64) .nil)))))
def lo49_0 : Ot τ LB49_0 := .one (.exit 0) (.aptr 2 12 .u64 (.aptr 4 12 .u64 .nil))
def Q49_0 : LA49_0 → Option (LA49_0 ⊕ LB49_0) := fun ⟨a', ⟨b', ⟨t4', ⟨c', ⟨i', ()⟩⟩⟩⟩⟩ => (bif decide (i' < 12) then ((bif decide (0 ≤ i') && decide (i' < 12) then some () else none).bind fun () => ((a'[Int.toNat i']?).bind fun y2 => ((bif decide (0 ≤ i') && decide (i' < 12) then some () else none).bind fun () => ((b'[Int.toNat i']?).bind fun y4 => ((bif decide (0 ≤ i') && decide (i' < 12) then some () else none).bind fun () => ((bif Nat.blt (Int.toNat i') 12 then some () else none).bind fun () => (let v0 : Int := c' + y2; let v1 : Int := IntKind.wrap IntKind.u64 v0; let v2 : Int := v1 + y4; let v3 : Int := IntKind.wrap IntKind.u64 v2; let v4 : Int := Int.tmod v3 65536; let v5 : Int := Int.tdiv v3 65536; let v6 : Int := IntKind.wrap IntKind.u64 v5; let v7 : Int := i' + 1; let v8 : Int := IntKind.wrap IntKind.i64 v7; some (.inl (List.set a' (Int.toNat i') v4, (b', (t4', (v6, (v8, ()))))))))))))) else (some (.inr (a', (t4', ())))))
def R49_0 : LA49_0 → Option (LA49_0 ⊕ LB49_0) := Q49_0
def L49_0 : Lc τ := ⟨li49_0, itrs R49_0, lo49_0⟩
def M49 (l49_0 : LA49_0 → Option LB49_0) : A49 → Option B49 := fun ⟨a', ⟨b', ()⟩⟩ => ((l49_0 (a', (b', (List.replicate 12 0, (0, (0, ())))))).bind fun ⟨y0_0, ⟨y0_1, ()⟩⟩ => (some (y0_0, ())))
def N49 : A49 → Option B49 := M49 (itrs R49_0)
def C49 : Ctr τ := ⟨i49, o49, N49⟩
theorem g49 : GOK κ Try.prog (G49) := gok_nil
theorem le49_0 : ∀ x, Q49_0 x = run Try.prog κ (G49) (tabL []) 0 (loopAt Try.f49 0) (li49_0.build x) (rnd li49_0 lo49_0) := fun x => by kernel_rfl
theorem linner49_0 : ∀ Z : Zn, Z.rl = [] → 27 ≤ Z.nt → ∀ p ∈ loops 0 (loopAt Try.f49 0), ∀ C, (tabL []) p.1 = some C → LoopOK κ Try.prog Z p.2 C := fun Z h n => fun p hp => (by cases (show p ∈ ([] : List (Nat × Code)) from hp))
theorem lk49_0 : ∀ Z : Zn, Z.rl = [] → 27 ≤ Z.nt → LoopOK κ Try.prog Z (loopAt Try.f49 0) L49_0 := fun Z h n => loop_ok (S := (tabL [])) R49_0 (by kernel_rfl) g49 (by rw [h]; exact dsts_mono n _ (by kernel_rfl)) (linner49_0 Z h n) (by kernel_rfl) (by kernel_rfl) (le49_0) itrs_rounds
theorem lall49 : ∀ Z : Zn, Z.rl = C49.o.keeps → Try.f49.ntmps ≤ Z.nt → ∀ p ∈ loops 0 (bodyOf Try.f49), ∀ C, (tabL [(0, L49_0)]) p.1 = some C → LoopOK κ Try.prog Z p.2 C := fun Z h n => all_loops [(0, loopAt Try.f49 0)] (by kernel_rfl) (all_cons (fun C hC => (Option.some.inj hC : L49_0 = C) ▸ lk49_0 Z h n) (fun _ h => by cases h))
theorem e49 : ∀ (l49_0 : LA49_0 → Option LB49_0) x, M49 l49_0 x = fnE Try.prog κ (G49) (tabL [(0, (⟨li49_0, l49_0, lo49_0⟩ : Lc τ))]) Try.f49 i49 o49 x := fun l49_0 x => by kernel_rfl
theorem s49 : Sound κ Try.prog C49 49 := fn_sound (S := (tabL [(0, L49_0)])) (F := Try.f49) (code := bodyOf Try.f49) (by kernel_rfl) g49 Try.func49 (by kernel_rfl) (by kernel_rfl) (by kernel_rfl) lall49 (by kernel_rfl) (by kernel_rfl) fun x y h => (e49 (itrs R49_0) x).symm.trans h
end Go.Proofs.Ytieeaicdpdidpaa.E
namespace Go.Proofs.Ytieeaicdpdidpaa.E
open Go
set_option linter.unusedVariables false
set_option maxRecDepth 100000
abbrev A46 : Type := (List Int × Unit)
abbrev B46 : Type := (List Int × Unit)
def i46 : Fr τ A46 := (.arr 0 12 .u64 .nil)
def o46 : Fr τ B46 := (.arr 1000 12 .u64 .nil)
def G46 (c49 : A49 → Option B49) : Nat → Option (Ctr τ) := tabG [(49, (⟨i49, o49, c49⟩ : Ctr τ))]
abbrev LA46_0 : Type := (List Int × List Int × Int × Unit)
abbrev LB46_0 : Type := (List Int × List Int × Unit)
def li46_0 : Fr τ LA46_0 := (.aptr 1 12 .u64 (.aptr 2 12 .u64 (.val 3 (.int .i64) .nil)))
def lo46_0 : Ot τ LB46_0 := .one (.exit 0) (.aptr 1 12 .u64 (.aptr 2 12 .u64 .nil))
def Q46_0 (c49 : A49 → Option B49) : LA46_0 → Option (LA46_0 ⊕ LB46_0) := fun ⟨a', ⟨t2', ⟨i', ()⟩⟩⟩ => (bif decide (i' < 12) then ((bif decide (0 ≤ i') && decide (i' < 12) then some () else none).bind fun () => ((a'[Int.toNat i']?).bind fun y2 => ((bif decide (0 ≤ i') && decide (i' < 12) then some () else none).bind fun () => ((bif Nat.blt (Int.toNat i') 12 then some () else none).bind fun () => (let v0 : Int := 65535 - y2; let v1 : Int := IntKind.wrap IntKind.u64 v0; let v2 : Int := i' + 1; let v3 : Int := IntKind.wrap IntKind.i64 v2; some (.inl (List.set a' (Int.toNat i') v1, (t2', (v3, ()))))))))) else (some (.inr (a', (t2', ())))))
def R46_0 : LA46_0 → Option (LA46_0 ⊕ LB46_0) := Q46_0 N49
def L46_0 : Lc τ := ⟨li46_0, itrs R46_0, lo46_0⟩
def M46 (c49 : A49 → Option B49) (l46_0 : LA46_0 → Option LB46_0) : A46 → Option B46 := fun ⟨a', ()⟩ => ((l46_0 (a', (List.replicate 12 0, (0, ())))).bind fun ⟨y0_0, ⟨y0_1, ()⟩⟩ => ((c49 (y0_0, ([1, 0, 0, 0, 0, 0, 0, 0, 0, 0, 0, 0], ()))).bind fun ⟨y1, ()⟩ => (some (y1, ()))))
def N46 : A46 → Option B46 := M46 N49 (itrs R46_0)
def C46 : Ctr τ := ⟨i46, o46, N46⟩
theorem g46 : GOK κ Try.prog (G46 N49) := (gok_cons s49 gok_nil)
theorem le46_0 : ∀ (c49 : A49 → Option B49) x, Q46_0 c49 x = run Try.prog κ (G46 c49) (tabL []) 0 (loopAt Try.f46 0) (li46_0.build x) (rnd li46_0 lo46_0) := fun c49 x => by kernel_rfl
theorem linner46_0 : ∀ Z : Zn, Z.rl = [] → 17 ≤ Z.nt → ∀ p ∈ loops 0 (loopAt Try.f46 0), ∀ C, (tabL []) p.1 = some C → LoopOK κ Try.prog Z p.2 C := fun Z h n => fun p hp => (by cases (show p ∈ ([] : List (Nat × Code)) from hp))
theorem lk46_0 : ∀ Z : Zn, Z.rl = [] → 17 ≤ Z.nt → LoopOK κ Try.prog Z (loopAt Try.f46 0) L46_0 := fun Z h n => loop_ok (S := (tabL [])) R46_0 (by kernel_rfl) g46 (by rw [h]; exact dsts_mono n _ (by kernel_rfl)) (linner46_0 Z h n) (by kernel_rfl) (by kernel_rfl) (le46_0 N49) itrs_rounds
theorem lall46 : ∀ Z : Zn, Z.rl = C46.o.keeps → Try.f46.ntmps ≤ Z.nt → ∀ p ∈ loops 0 (bodyOf Try.f46), ∀ C, (tabL [(0, L46_0)]) p.1 = some C → LoopOK κ Try.prog Z p.2 C := fun Z h n => all_loops [(0, loopAt Try.f46 0)] (by kernel_rfl) (all_cons (fun C hC => (Option.some.inj hC : L46_0 = C) ▸ lk46_0 Z h n) (fun _ h => by cases h))
theorem e46 : ∀ (c49 : A49 → Option B49) (l46_0 : LA46_0 → Option LB46_0) x, M46 c49 l46_0 x = fnE Try.prog κ (G46 c49) (tabL [(0, (⟨li46_0, l46_0, lo46_0⟩ : Lc τ))]) Try.f46 i46 o46 x := fun c49 l46_0 x => by kernel_rfl
theorem s46 : Sound κ Try.prog C46 46 := fn_sound (S := (tabL [(0, L46_0)])) (F := Try.f46) (code := bodyOf Try.f46) (by kernel_rfl) g46 Try.func46 (by kernel_rfl) (by kernel_rfl) (by kernel_rfl) lall46 (by kernel_rfl) (by kernel_rfl) fun x y h => (e46 N49 (itrs R46_0) x).symm.trans h
end Go.Proofs.Ytieeaicdpdidpaa.E
namespace Go.Proofs.Ytieeaicdpdidpaa.E
open Go
set_option linter.unusedVariables false
set_option maxRecDepth 100000
abbrev A31 : Type := ((Int × Int) × Unit)
abbrev B31 : Type := (Int × Int × Unit)
def i31 : Fr τ A31 := (.val 0 (.pair (.int .i64) (.int .u64)) .nil)
def o31 : Fr τ B31 := (.val 1000 (.int .u64) (.val 1001 (.int .u64) .nil))
def G31 (c44 : A44 → Option B44) (c45 : A45 → Option B45) (c46 : A46 → Option B46) : Nat → Option (Ctr τ) := tabG [(44, (⟨i44, o44, c44⟩ : Ctr τ)), (45, (⟨i45, o45, c45⟩ : Ctr τ)), (46, (⟨i46, o46, c46⟩ : Ctr τ))]
abbrev LA31_0 : Type := (List Int × Int × Int × Int × Unit)
abbrev LB31_0 : Type := (Int × Int × Unit)
def li31_0 : Fr τ LA31_0 := (.aptr 4 12 .u64 (.val 5 (.int .u64) (.val 6 (.int .u64) (.val 7 (.int .i64) .nil))))
def lo31_0 : Ot τ LB31_0 := .one (.exit 0) (.val 5 (.int .u64) (.val 6 (.int .u64) .nil))
def Q31_0 (c44 : A44 → Option B44) (c45 : A45 → Option B45) (c46 : A46 → Option B46) : LA31_0 → Option (LA31_0 ⊕ LB31_0) := fun ⟨l', ⟨hi', ⟨lo', ⟨i', ()⟩⟩⟩⟩ => (bif decide (i' ≥ 0) then ((bif decide (0 ≤ i') && decide (i' < 12) then some () else none).bind fun () => ((l'[Int.toNat i']?).bind fun y2 => (let v0 : Int := i' + 4; let v1 : Int := IntKind.wrap IntKind.i64 v0; (bif decide (0 ≤ v1) && decide (v1 < 12) then some () else none).bind fun () => ((l'[Int.toNat v1]?).bind fun y4 => (let v2 : Int := hi' * 65536; let v3 : Int := IntKind.wrap IntKind.u64 v2; let v4 : Int := v3 + y4; let v5 : Int := IntKind.wrap IntKind.u64 v4; let v6 : Int := lo' * 65536; let v7 : Int := IntKind.wrap IntKind.u64 v6; let v8 : Int := v7 + y2; let v9 : Int := IntKind.wrap IntKind.u64 v8; let v10 : Int := i' - 1; let v11 : Int := IntKind.wrap IntKind.i64 v10; some (.inl (l', (v5, (v9, (v11, ())))))))))) else (some (.inr (hi', (lo', ())))))
def R31_0 : LA31_0 → Option (LA31_0 ⊕ LB31_0) := Q31_0 N44 N45 N46
def L31_0 : Lc τ := ⟨li31_0, itrs R31_0, lo31_0⟩
def M31 (c44 : A44 → Option B44) (c45 : A45 → Option B45) (c46 : A46 → Option B46) (l31_0 : LA31_0 → Option LB31_0) : A31 → Option B31 := fun ⟨⟨w'_0, w'_1⟩, ()⟩ => ((c44 ((w'_0, w'_1), ())).bind fun ⟨y0, ()⟩ => ((c45 (y0, ())).bind fun ⟨y1, ()⟩ => (bif y1 then ((c46 (y0, ())).bind fun ⟨y3, ()⟩ => ((l31_0 (y3, (0, (0, (3, ()))))).bind fun ⟨y4_0, ⟨y4_1, ()⟩⟩ => (some (y4_0, (y4_1, ()))))) else ((l31_0 (y0, (0, (0, (3, ()))))).bind fun ⟨y3_0, ⟨y3_1, ()⟩⟩ => (some (y3_0, (y3_1, ())))))))
def N31 : A31 → Option B31 := M31 N44 N45 N46 (itrs R31_0)
def C31 : Ctr τ := ⟨i31, o31, N31⟩
theorem g31 : GOK κ Try.prog (G31 N44 N45 N46) := (gok_cons s44 (gok_cons s45 (gok_cons s46 gok_nil)))
theorem le31_0 : ∀ (c44 : A44 → Option B44) (c45 : A45 → Option B45) (c46 : A46 → Option B46) x, Q31_0 c44 c45 c46 x = run Try.prog κ (G31 c44 c45 c46) (tabL []) 0 (loopAt Try.f31 0) (li31_0.build x) (rnd li31_0 lo31_0) := fun c44 c45 c46 x => by kernel_rfl
theorem linner31_0 : ∀ Z : Zn, Z.rl = [] → 33 ≤ Z.nt → ∀ p ∈ loops 0 (loopAt Try.f31 0), ∀ C, (tabL []) p.1 = some C → LoopOK κ Try.prog Z p.2 C := fun Z h n => fun p hp => (by cases (show p ∈ ([] : List (Nat × Code)) from hp))
theorem lk31_0 : ∀ Z : Zn, Z.rl = [] → 33 ≤ Z.nt → LoopOK κ Try.prog Z (loopAt Try.f31 0) L31_0 := fun Z h n => loop_ok (S := (tabL [])) R31_0 (by kernel_rfl) g31 (by rw [h]; exact dsts_mono n _ (by kernel_rfl)) (linner31_0 Z h n) (by kernel_rfl) (by kernel_rfl) (le31_0 N44 N45 N46) itrs_rounds
theorem lall31 : ∀ Z : Zn, Z.rl = C31.o.keeps → Try.f31.ntmps ≤ Z.nt → ∀ p ∈ loops 0 (bodyOf Try.f31), ∀ C, (tabL [(0, L31_0)]) p.1 = some C → LoopOK κ Try.prog Z p.2 C := fun Z h n => all_loops [(0, loopAt Try.f31 0)] (by kernel_rfl) (all_cons (fun C hC => (Option.some.inj hC : L31_0 = C) ▸ lk31_0 Z h n) (fun _ h => by cases h))
theorem e31 : ∀ (c44 : A44 → Option B44) (c45 : A45 → Option B45) (c46 : A46 → Option B46) (l31_0 : LA31_0 → Option LB31_0) x, M31 c44 c45 c46 l31_0 x = fnE Try.prog κ (G31 c44 c45 c46) (tabL [(0, (⟨li31_0, l31_0, lo31_0⟩ : Lc τ))]) Try.f31 i31 o31 x := fun c44 c45 c46 l31_0 x => by kernel_rfl
theorem s31 : Sound κ Try.prog C31 31 := fn_sound (S := (tabL [(0, L31_0)])) (F := Try.f31) (code := bodyOf Try.f31) (by kernel_rfl) g31 Try.func31 (by kernel_rfl) (by kernel_rfl) (by kernel_rfl) lall31 (by kernel_rfl) (by kernel_rfl) fun x y h => (e31 N44 N45 N46 (itrs R31_0) x).symm.trans h
end Go.Proofs.Ytieeaicdpdidpaa.E
namespace Go.Proofs.Ytieeaicdpdidpaa.E
open Go
set_option linter.unusedVariables false
set_option maxRecDepth 100000
abbrev A30 : Type := (Int × Int × Unit)
abbrev B30 : Type := (List Int × Unit)
def i30 : Fr τ A30 := (.val 0 (.int .u64) (.val 1 (.int .u64) .nil))
def o30 : Fr τ B30 := (.arr 1000 8 .u64 .nil)
def G30 : Nat → Option (Ctr τ) := tabG []
abbrev LA30_0 : Type := (Int × Int × List Int × List Int × Int × Unit)
abbrev LB30_0 : Type := (List Int × List Int × Unit)
def li30_0 : Fr τ LA30_0 := (.val 0 (.int .u64) (.val 1 (.int .u64) (.aptr 4 8 .u64 (.aptr 5 8 .u64 (.val 6 (.int .i64) .nil)))))
def lo30_0 : Ot τ LB30_0 := .one (.exit 0) (.aptr 4 8 .u64 (.aptr 5 8 .u64 .nil))
def Q30_0 : LA30_0 → Option (LA30_0 ⊕ LB30_0) := fun ⟨hi', ⟨lo', ⟨t4', ⟨d', ⟨i', ()⟩⟩⟩⟩⟩ => (bif decide (i' < 4) then (let v0 : Int := 16 * i'; let v1 : Int := IntKind.wrap IntKind.i64 v0; let v2 : Int := IntKind.wrap IntKind.u64 v1; (bif decide (0 ≤ v2) then some () else none).bind fun () => ((bif decide (0 ≤ i') && decide (i' < 8) then some () else none).bind fun () => ((bif Nat.blt (Int.toNat i') 8 then some () else none).bind fun () => ((bif decide (0 ≤ v2) then some () else none).bind fun () => (let v3 : Int := i' + 4; let v4 : Int := IntKind.wrap IntKind.i64 v3; (bif decide (0 ≤ v4) && decide (v4 < 8) then some () else none).bind fun () => ((bif Nat.blt (Int.toNat v4) 8 then some () else none).bind fun () => (let v5 : Int := Int.fdiv lo' (2 ^ min (Int.toNat v2) 64); let v6 : Int := Int.tmod v5 65536; let v7 : Int := Int.fdiv hi' (2 ^ min (Int.toNat v2) 64); let v8 : Int := Int.tmod v7 65536; let v9 : Int := i' + 1; let v10 : Int := IntKind.wrap IntKind.i64 v9; some (.inl (hi', (lo', (t4', (List.set (List.set d' (Int.toNat i') v6) (Int.toNat v4) v8, (v10, ()))))))))))))) else (some (.inr (t4', (d', ())))))
def R30_0 : LA30_0 → Option (LA30_0 ⊕ LB30_0) := Q30_0
def L30_0 : Lc τ := ⟨li30_0, itrs R30_0, lo30_0⟩
def M30 (l30_0 : LA30_0 → Option LB30_0) : A30 → Option B30 := fun ⟨hi', ⟨lo', ()⟩⟩ => ((l30_0 (hi', (lo', (List.replicate 8 0, (List.replicate 8 0, (0, ())))))).bind fun ⟨y0_0, ⟨y0_1, ()⟩⟩ => (some (y0_1, ())))
def N30 : A30 → Option B30 := M30 (itrs R30_0)
def C30 : Ctr τ := ⟨i30, o30, N30⟩
theorem g30 : GOK κ Try.prog (G30) := gok_nil
theorem le30_0 : ∀ x, Q30_0 x = run Try.prog κ (G30) (tabL []) 0 (loopAt Try.f30 0) (li30_0.build x) (rnd li30_0 lo30_0) := fun x => by kernel_rfl
theorem linner30_0 : ∀ Z : Zn, Z.rl = [] → 29 ≤ Z.nt → ∀ p ∈ loops 0 (loopAt Try.f30 0), ∀ C, (tabL []) p.1 = some C → LoopOK κ Try.prog Z p.2 C := fun Z h n => fun p hp => (by cases (show p ∈ ([] : List (Nat × Code)) from hp))
theorem lk30_0 : ∀ Z : Zn, Z.rl = [] → 29 ≤ Z.nt → LoopOK κ Try.prog Z (loopAt Try.f30 0) L30_0 := fun Z h n => loop_ok (S := (tabL [])) R30_0 (by kernel_rfl) g30 (by rw [h]; exact dsts_mono n _ (by kernel_rfl)) (linner30_0 Z h n) (by kernel_rfl) (by kernel_rfl) (le30_0) itrs_rounds
theorem lall30 : ∀ Z : Zn, Z.rl = C30.o.keeps → Try.f30.ntmps ≤ Z.nt → ∀ p ∈ loops 0 (bodyOf Try.f30), ∀ C, (tabL [(0, L30_0)]) p.1 = some C → LoopOK κ Try.prog Z p.2 C := fun Z h n => all_loops [(0, loopAt Try.f30 0)] (by kernel_rfl) (all_cons (fun C hC => (Option.some.inj hC : L30_0 = C) ▸ lk30_0 Z h n) (fun _ h => by cases h))
theorem e30 : ∀ (l30_0 : LA30_0 → Option LB30_0) x, M30 l30_0 x = fnE Try.prog κ (G30) (tabL [(0, (⟨li30_0, l30_0, lo30_0⟩ : Lc τ))]) Try.f30 i30 o30 x := fun l30_0 x => by kernel_rfl
theorem s30 : Sound κ Try.prog C30 30 := fn_sound (S := (tabL [(0, L30_0)])) (F := Try.f30) (code := bodyOf Try.f30) (by kernel_rfl) g30 Try.func30 (by kernel_rfl) (by kernel_rfl) (by kernel_rfl) lall30 (by kernel_rfl) (by kernel_rfl) fun x y h => (e30 (itrs R30_0) x).symm.trans h
end Go.Proofs.Ytieeaicdpdidpaa.E
namespace Go.Proofs.Ytieeaicdpdidpaa.E
open Go
set_option linter.unusedVariables false
set_option maxRecDepth 100000
abbrev A50 : Type := (List Int × Unit)
abbrev B50 : Type := ((Int × Int) × Bool × Unit)
def i50 : Fr τ A50 := (.arr 0 12 .u64 .nil)
def o50 : Fr τ B50 := (.val 1000 (.pair (.int .i64) (.int .u64)) (.val 1001 .bool .nil))
def G50 : Nat → Option (Ctr τ) := tabG []
abbrev LA50_2 : Type := (List Int × (Int × (Int × Unit)) × Int × Int × Int × Unit)
abbrev LB50_2 : Type := ((Int × (Int × Unit)) × Int × Int × Unit)
def li50_2 : Fr τ LA50_2 := (.aptr 1 12 .u64 (.ptr 2 none 26 (.val (.int .i64) (.val (.int .u64) .nil)) (.val 6 (.int .u64) (.val 7 (.int .u64) (.val 8 (.int .i64) .nil)))))
def lo50_2 : Ot τ LB50_2 := .one (.exit 2) (.ptr 2 none 26 (.val (.int .i64) (.val (.int .u64) .nil)) (.val 6 (.int .u64) (.val 7 (.int .u64) .nil)))
def Q50_2 : LA50_2 → Option (LA50_2 ⊕ LB50_2) := fun ⟨l', ⟨⟨t2'_0, ⟨t2'_1, ()⟩⟩, ⟨lo', ⟨hi', ⟨i', ()⟩⟩⟩⟩⟩ => (bif decide (i' ≥ 0) then ((bif decide (0 ≤ i') && decide (i' < 12) then some () else none).bind fun () => ((l'[Int.toNat i']?).bind fun y2 => (let v0 : Int := i' + 4; let v1 : Int := IntKind.wrap IntKind.i64 v0; (bif decide (0 ≤ v1) && decide (v1 < 12) then some () else none).bind fun () => ((l'[Int.toNat v1]?).bind fun y4 => (let v2 : Int := lo' * 65536; let v3 : Int := IntKind.wrap IntKind.u64 v2; let v4 : Int := v3 + y2; let v5 : Int := IntKind.wrap IntKind.u64 v4; let v6 : Int := hi' * 65536; let v7 : Int := IntKind.wrap IntKind.u64 v6; let v8 : Int := v7 + y4; let v9 : Int := IntKind.wrap IntKind.u64 v8; let v10 : Int := i' - 1; let v11 : Int := IntKind.wrap IntKind.i64 v10; some (.inl (l', ((t2'_0, (t2'_1, ())), (v5, (v9, (v11, ()))))))))))) else (some (.inr ((t2'_0, (t2'_1, ())), (lo', (hi', ()))))))
def R50_2 : LA50_2 → Option (LA50_2 ⊕ LB50_2) := Q50_2
def L50_2 : Lc τ := ⟨li50_2, itrs R50_2, lo50_2⟩
abbrev LA50_0 : Type := (List Int × (Int × (Int × Unit)) × Int × Int × Unit)
abbrev LB50_0 : Type := (List Int × (Int × (Int × Unit)) × Unit) ⊕ ((Int × (Int × Unit)) × Bool × Unit)
def li50_0 : Fr τ LA50_0 := (.aptr 1 12 .u64 (.ptr 2 none 26 (.val (.int .i64) (.val (.int .u64) .nil)) (.val 4 (.int .u64) (.val 5 (.int .i64) .nil))))
def lo50_0 : Ot τ LB50_0 := .alt (.exit 0) (.aptr 1 12 .u64 (.ptr 2 none 26 (.val (.int .i64) (.val (.int .u64) .nil)) .nil)) (.one .ret (.ptr 2 none 26 (.val (.int .i64) (.val (.int .u64) .nil)) (.val 3 .bool .nil)))
def Q50_0 : LA50_0 → Option (LA50_0 ⊕ LB50_0) := fun ⟨l', ⟨⟨t2'_0, ⟨t2'_1, ()⟩⟩, ⟨top', ⟨i', ()⟩⟩⟩⟩ => (bif decide (i' < 12) then ((bif decide (0 ≤ i') && decide (i' < 12) then some () else none).bind fun () => ((l'[Int.toNat i']?).bind fun y2 => (bif y2 != top' then (some (.inr (.inr ((0, (0, ())), (false, ()))))) else (let v0 : Int := i' + 1; let v1 : Int := IntKind.wrap IntKind.i64 v0; some (.inl (l', ((t2'_0, (t2'_1, ())), (top', (v1, ()))))))))) else (some (.inr (.inl (l', ((t2'_0, (t2'_1, ())), ()))))))
def R50_0 : LA50_0 → Option (LA50_0 ⊕ LB50_0) := Q50_0
def L50_0 : Lc τ := ⟨li50_0, itrs R50_0, lo50_0⟩
def M50 (l50_0 : LA50_0 → Option LB50_0) (l50_2 : LA50_2 → Option LB50_2) : A50 → Option B50 := fun ⟨l', ()⟩ => ((l'[7]?).bind fun y0 => (bif decide (y0 ≥ 32768) then ((l50_0 (l', ((0, (0, ())), (65535, (8, ()))))).bind fun y2 => (match y2 with | .inl ⟨y3_0, ⟨⟨y3_1, ⟨y3_2, ()⟩⟩, ()⟩⟩ => ((l50_2 (y3_0, ((y3_1, (y3_2, ())), (0, (0, (3, ())))))).bind fun ⟨⟨y4_0, ⟨y4_1, ()⟩⟩, ⟨y4_2, ⟨y4_3, ()⟩⟩⟩ => (let v0 : Int := IntKind.wrap IntKind.i64 y4_3; some ((v0, y4_2), (true, ())))) | .inr ⟨⟨y3_0, ⟨y3_1, ()⟩⟩, ⟨y3_2, ()⟩⟩ => (some ((y3_0, y3_1), (y3_2, ()))))) else ((l50_0 (l', ((0, (0, ())), (0, (8, ()))))).bind fun y2 => (match y2 with | .inl ⟨y3_0, ⟨⟨y3_1, ⟨y3_2, ()⟩⟩, ()⟩⟩ => ((l50_2 (y3_0, ((y3_1, (y3_2, ())), (0, (0, (3, ())))))).bind fun ⟨⟨y4_0, ⟨y4_1, ()⟩⟩, ⟨y4_2, ⟨y4_3, ()⟩⟩⟩ => (let v0 : Int := IntKind.wrap IntKind.i64 y4_3; some ((v0, y4_2), (true, ())))) | .inr ⟨⟨y3_0, ⟨y3_1, ()⟩⟩, ⟨y3_2, ()⟩⟩ => (some ((y3_0, y3_1), (y3_2, ())))))))
def N50 : A50 → Option B50 := M50 (itrs R50_0) (itrs R50_2)
def C50 : Ctr τ := ⟨i50, o50, N50⟩
theorem g50 : GOK κ Try.prog (G50) := gok_nil
theorem le50_2 : ∀ x, Q50_2 x = run Try.prog κ (G50) (tabL []) 2 (loopAt Try.f50 1) (li50_2.build x) (rnd li50_2 lo50_2) := fun x => by kernel_rfl
theorem le50_0 : ∀ x, Q50_0 x = run Try.prog κ (G50) (tabL []) 0 (loopAt Try.f50 0) (li50_0.build x) (rnd li50_0 lo50_0) := fun x => by kernel_rfl
theorem linner50_2 : ∀ Z : Zn, Z.rl = [] → 43 ≤ Z.nt → ∀ p ∈ loops 2 (loopAt Try.f50 1), ∀ C, (tabL []) p.1 = some C → LoopOK κ Try.prog Z p.2 C := fun Z h n => fun p hp => (by cases (show p ∈ ([] : List (Nat × Code)) from hp))
theorem lk50_2 : ∀ Z : Zn, Z.rl = [] → 43 ≤ Z.nt → LoopOK κ Try.prog Z (loopAt Try.f50 1) L50_2 := fun Z h n => loop_ok (S := (tabL [])) R50_2 (by kernel_rfl) g50 (by rw [h]; exact dsts_mono n _ (by kernel_rfl)) (linner50_2 Z h n) (by kernel_rfl) (by kernel_rfl) (le50_2) itrs_rounds
theorem linner50_0 : ∀ Z : Zn, Z.rl = [] → 43 ≤ Z.nt → ∀ p ∈ loops 0 (loopAt Try.f50 0), ∀ C, (tabL []) p.1 = some C → LoopOK κ Try.prog Z p.2 C := fun Z h n => fun p hp => (by cases (show p ∈ ([] : List (Nat × Code)) from hp))
theorem lk50_0 : ∀ Z : Zn, Z.rl = [] → 43 ≤ Z.nt → LoopOK κ Try.prog Z (loopAt Try.f50 0) L50_0 := fun Z h n => loop_ok (S := (tabL [])) R50_0 (by kernel_rfl) g50 (by rw [h]; exact dsts_mono n _ (by kernel_rfl)) (linner50_0 Z h n) (by kernel_rfl) (by kernel_rfl) (le50_0) itrs_rounds
theorem lall50 : ∀ Z : Zn, Z.rl = C50.o.keeps → Try.f50.ntmps ≤ Z.nt → ∀ p ∈ loops 0 (bodyOf Try.f50), ∀ C, (tabL [(0, L50_0), (2, L50_2)]) p.1 = some C → LoopOK κ Try.prog Z p.2 C := fun Z h n => all_loops [(0, loopAt Try.f50 0), (2, loopAt Try.f50 1)] (by kernel_rfl) (all_cons (fun C hC => (Option.some.inj hC : L50_0 = C) ▸ lk50_0 Z h n) (all_cons (fun C hC => (Option.some.inj hC : L50_2 = C) ▸ lk50_2 Z h n) (fun _ h => by cases h)))
theorem e50 : ∀ (l50_0 : LA50_0 → Option LB50_0) (l50_2 : LA50_2 → Option LB50_2) x, M50 l50_0 l50_2 x = fnE Try.prog κ (G50) (tabL [(0, (⟨li50_0, l50_0, lo50_0⟩ : Lc τ)), (2, (⟨li50_2, l50_2, lo50_2⟩ : Lc τ))]) Try.f50 i50 o50 x := fun l50_0 l50_2 x => by kernel_rfl
theorem s50 : Sound κ Try.prog C50 50 := fn_sound (S := (tabL [(0, L50_0), (2, L50_2)])) (F := Try.f50) (code := bodyOf Try.f50) (by kernel_rfl) g50 Try.func50 (by kernel_rfl) (by kernel_rfl) (by kernel_rfl) lall50 (by kernel_rfl) (by kernel_rfl) fun x y h => (e50 (itrs R50_0) (itrs R50_2) x).symm.trans h
end Go.Proofs.Ytieeaicdpdidpaa.E
namespace Go.Proofs.Ytieeaicdpdidpaa.E
open Go
set_option linter.unusedVariables false
set_option maxRecDepth 100000
abbrev A47 : Type := (List Int × Unit)
abbrev B47 : Type := ((Int × Int) × Int × Unit)
def i47 : Fr τ A47 := (.arr 0 12 .u64 .nil)
def o47 : Fr τ B47 := (.val 1000 (.pair (.int .i64) (.int .u64)) (.val 1001 (.int .i64) .nil))
def G47 (c50 : A50 → Option B50) : Nat → Option (Ctr τ) := tabG [(50, (⟨i50, o50, c50⟩ : Ctr τ))]
def M47 (c50 : A50 → Option B50) : A47 → Option B47 := fun ⟨l', ()⟩ => ((c50 (l', ())).bind fun ⟨⟨y0_0, y0_1⟩, ⟨y0_2, ()⟩⟩ => (bif !y0_2 then (some ((0, 0), (10, ()))) else (some ((y0_0, y0_1), (0, ())))))
def N47 : A47 → Option B47 := M47 N50
def C47 : Ctr τ := ⟨i47, o47, N47⟩
theorem g47 : GOK κ Try.prog (G47 N50) := (gok_cons s50 gok_nil)
theorem lall47 : ∀ Z : Zn, Z.rl = C47.o.keeps → Try.f47.ntmps ≤ Z.nt → ∀ p ∈ loops 0 (bodyOf Try.f47), ∀ C, (tabL []) p.1 = some C → LoopOK κ Try.prog Z p.2 C := fun Z h n => fun p hp => (by cases (show p ∈ ([] : List (Nat × Code)) from hp))
theorem e47 : ∀ (c50 : A50 → Option B50) x, M47 c50 x = fnE Try.prog κ (G47 c50) (tabL []) Try.f47 i47 o47 x := fun c50 x => by kernel_rfl
theorem s47 : Sound κ Try.prog C47 47 := fn_sound (S := (tabL [])) (F := Try.f47) (code := bodyOf Try.f47) (by kernel_rfl) g47 Try.func47 (by kernel_rfl) (by kernel_rfl) (by kernel_rfl) lall47 (by kernel_rfl) (by kernel_rfl) fun x y h => (e47 N50 x).symm.trans h
end Go.Proofs.Ytieeaicdpdidpaa.E
namespace Go.Proofs.Ytieeaicdpdidpaa.E
open Go
set_option linter.unusedVariables false
set_option maxRecDepth 100000
abbrev A32 : Type := (Bool × Int × Int × Unit)
abbrev B32 : Type := ((Int × Int) × Int × Unit)
def i32 : Fr τ A32 := (.val 0 .bool (.val 1 (.int .u64) (.val 2 (.int .u64) .nil)))
def o32 : Fr τ B32 := (.val 1000 (.pair (.int .i64) (.int .u64)) (.val 1001 (.int .i64) .nil))
def G32 (c46 : A46 → Option B46) (c47 : A47 → Option B47) : Nat → Option (Ctr τ) := tabG [(46, (⟨i46, o46, c46⟩ : Ctr τ)), (47, (⟨i47, o47, c47⟩ : Ctr τ))]
abbrev LA32_0 : Type := (Bool × Int × Int × (Int × (Int × Unit)) × List Int × Int × Unit)
abbrev LB32_0 : Type := (Bool × (Int × (Int × Unit)) × List Int × Unit)
def li32_0 : Fr τ LA32_0 := (.val 0 .bool (.val 1 (.int .u64) (.val 2 (.int .u64) (.ptr 6 none 26 (.val (.int .i64) (.val (.int .u64) .nil)) (.aptr 8 12 .u64 (.val 9 (.int .i64) .nil))))))
def lo32_0 : Ot τ LB32_0 := .one (.exit 0) (.val 0 .bool (.ptr 6 none 26 (.val (.int .i64) (.val (.int .u64) .nil)) (.aptr 8 12 .u64 .nil)))
def Q32_0 (c46 : A46 → Option B46) (c47 : A47 → Option B47) : LA32_0 → Option (LA32_0 ⊕ LB32_0) := fun ⟨below', ⟨hi', ⟨lo', ⟨⟨t6'_0, ⟨t6'_1, ()⟩⟩, ⟨l', ⟨i', ()⟩⟩⟩⟩⟩⟩ => (bif decide (i' < 4) then (let v0 : Int := 16 * i'; let v1 : Int := IntKind.wrap IntKind.i64 v0; let v2 : Int := IntKind.wrap IntKind.u64 v1; (bif decide (0 ≤ v2) then some () else none).bind fun () => ((bif decide (0 ≤ i') && decide (i' < 12) then some () else none).bind fun () => ((bif Nat.blt (Int.toNat i') 12 then some () else none).bind fun () => ((bif decide (0 ≤ v2) then some () else none).bind fun () => (let v3 : Int := i' + 4; let v4 : Int := IntKind.wrap IntKind.i64 v3; (bif decide (0 ≤ v4) && decide (v4 < 12) then some () else none).bind fun () => ((bif Nat.blt (Int.toNat v4) 12 then some () else none).bind fun () => (let v5 : Int := Int.fdiv lo' (2 ^ min (Int.toNat v2) 64); let v6 : Int := Int.tmod v5 65536; let v7 : Int := Int.fdiv hi' (2 ^ min (Int.toNat v2) 64); let v8 : Int := Int.tmod v7 65536; let v9 : Int := i' + 1; let v10 : Int := IntKind.wrap IntKind.i64 v9; some (.inl (below', (hi', (lo', ((t6'_0, (t6'_1, ())), (List.set (List.set l' (Int.toNat i') v6) (Int.toNat v4) v8, (v10, ())))))))))))))) else (some (.inr (below', ((t6'_0, (t6'_1, ())), (l', ()))))))
def R32_0 : LA32_0 → Option (LA32_0 ⊕ LB32_0) := Q32_0 N46 N47
def L32_0 : Lc τ := ⟨li32_0, itrs R32_0, lo32_0⟩
def M32 (c46 : A46 → Option B46) (c47 : A47 → Option B47) (l32_0 : LA32_0 → Option LB32_0) : A32 → Option B32 := fun ⟨below', ⟨hi', ⟨lo', ()⟩⟩⟩ => ((l32_0 (below', (hi', (lo', ((0, (0, ())), (List.replicate 12 0, (0, ()))))))).bind fun ⟨y0_0, ⟨⟨y0_1, ⟨y0_2, ()⟩⟩, ⟨y0_3, ()⟩⟩⟩ => (bif y0_0 then ((c46 (y0_3, ())).bind fun ⟨y2, ()⟩ => ((c47 (y2, ())).bind fun ⟨⟨y3_0, y3_1⟩, ⟨y3_2, ()⟩⟩ => (some ((y3_0, y3_1), (y3_2, ()))))) else ((c47 (y0_3, ())).bind fun ⟨⟨y2_0, y2_1⟩, ⟨y2_2, ()⟩⟩ => (some ((y2_0, y2_1), (y2_2, ()))))))
def N32 : A32 → Option B32 := M32 N46 N47 (itrs R32_0)
def C32 : Ctr τ := ⟨i32, o32, N32⟩
theorem g32 : GOK κ Try.prog (G32 N46 N47) := (gok_cons s46 (gok_cons s47 gok_nil))
theorem le32_0 : ∀ (c46 : A46 → Option B46) (c47 : A47 → Option B47) x, Q32_0 c46 c47 x = run Try.prog κ (G32 c46 c47) (tabL []) 0 (loopAt Try.f32 0) (li32_0.build x) (rnd li32_0 lo32_0) := fun c46 c47 x => by kernel_rfl
theorem linner32_0 : ∀ Z : Zn, Z.rl = [] → 38 ≤ Z.nt → ∀ p ∈ loops 0 (loopAt Try.f32 0), ∀ C, (tabL []) p.1 = some C → LoopOK κ Try.prog Z p.2 C := fun Z h n => fun p hp => (by cases (show p ∈ ([] : List (Nat × Code)) from hp))
theorem lk32_0 : ∀ Z : Zn, Z.rl = [] → 38 ≤ Z.nt → LoopOK κ Try.prog Z (loopAt Try.f32 0) L32_0 := fun Z h n => loop_ok (S := (tabL [])) R32_0 (by kernel_rfl) g32 (by rw [h]; exact dsts_mono n _ (by kernel_rfl)) (linner32_0 Z h n) (by kernel_rfl) (by kernel_rfl) (le32_0 N46 N47) itrs_rounds
theorem lall32 : ∀ Z : Zn, Z.rl = C32.o.keeps → Try.f32.ntmps ≤ Z.nt → ∀ p ∈ loops 0 (bodyOf Try.f32), ∀ C, (tabL [(0, L32_0)]) p.1 = some C → LoopOK κ Try.prog Z p.2 C := fun Z h n => all_loops [(0, loopAt Try.f32 0)] (by kernel_rfl) (all_cons (fun C hC => (Option.some.inj hC : L32_0 = C) ▸ lk32_0 Z h n) (fun _ h => by cases h))
theorem e32 : ∀ (c46 : A46 → Option B46) (c47 : A47 → Option B47) (l32_0 : LA32_0 → Option LB32_0) x, M32 c46 c47 l32_0 x = fnE Try.prog κ (G32 c46 c47) (tabL [(0, (⟨li32_0, l32_0, lo32_0⟩ : Lc τ))]) Try.f32 i32 o32 x := fun c46 c47 l32_0 x => by kernel_rfl
theorem s32 : Sound κ Try.prog C32 32 := fn_sound (S := (tabL [(0, L32_0)])) (F := Try.f32) (code := bodyOf Try.f32) (by kernel_rfl) g32 Try.func32 (by kernel_rfl) (by kernel_rfl) (by kernel_rfl) lall32 (by kernel_rfl) (by kernel_rfl) fun x y h => (e32 N46 N47 (itrs R32_0) x).symm.trans h
end Go.Proofs.Ytieeaicdpdidpaa.E
namespace Go.Proofs.Ytieeaicdpdidpaa.E
open Go
set_option linter.unusedVariables false
set_option maxRecDepth 100000
abbrev A13 : Type := ((Int × Int) × (Int × Int) × Unit)
abbrev B13 : Type := ((Int × Int) × Int × Unit)
def i13 : Fr τ A13 := (.val 0 (.pair (.int .i64) (.int .u64)) (.val 1 (.pair (.int .i64) (.int .u64)) .nil))
def o13 : Fr τ B13 := (.val 1000 (.pair (.int .i64) (.int .u64)) (.val 1001 (.int .i64) .nil))
def G13 (c31 : A31 → Option B31) (c30 : A30 → Option B30) (c32 : A32 → Option B32) : Nat → Option (Ctr τ) := tabG [(31, (⟨i31, o31, c31⟩ : Ctr τ)), (30, (⟨i30, o30, c30⟩ : Ctr τ)), (32, (⟨i32, o32, c32⟩ : Ctr τ))]
abbrev LA13_6 : Type := ((Int × (Int × Unit)) × (Int × (Int × Unit)) × (Int × (Int × Unit)) × List Int × Int × Int × Int × Unit)
abbrev LB13_6 : Type := ((Int × (Int × Unit)) × (Int × (Int × Unit)) × (Int × (Int × Unit)) × Int × Int × Unit)
def li13_6 : Fr τ LA13_6 := (.ptr 2 none 26 (.val (.int .i64) (.val (.int .u64) .nil)) (.ptr 3 none 26 (.val (.int .i64) (.val (.int .u64) .nil)) (.ptr 4 none 26 (.val (.int .i64) (.val (.int .u64) .nil)) (.aptr 8 17 .u64 (.val 13 (.int .u64) (.val 14 (.int .u64) (.val 15 (.int .i64) .nil)))))))
def lo13_6 : Ot τ LB13_6 := .one (.exit 6) (.ptr 2 none 26 (.val (.int .i64) (.val (.int .u64) .nil)) (.ptr 3 none 26 (.val (.int .i64) (.val (.int .u64) .nil)) (.ptr 4 none 26 (.val (.int .i64) (.val (.int .u64) .nil)) (.val 13 (.int .u64) (.val 14 (.int .u64) .nil)))))
def Q13_6 (c31 : A31 → Option B31) (c30 : A30 → Option B30) (c32 : A32 → Option B32) : LA13_6 → Option (LA13_6 ⊕ LB13_6) := fun ⟨⟨a'_0, ⟨a'_1, ()⟩⟩, ⟨⟨b'_0, ⟨b'_1, ()⟩⟩, ⟨⟨t4'_0, ⟨t4'_1, ()⟩⟩, ⟨p', ⟨hi', ⟨lo', ⟨i', ()⟩⟩⟩⟩⟩⟩⟩ => (bif decide (i' ≥ 0) then ((bif decide (0 ≤ i') && decide (i' < 17) then some () else none).bind fun () => ((p'[Int.toNat i']?).bind fun y2 => (let v0 : Int := i' + 4; let v1 : Int := IntKind.wrap IntKind.i64 v0; (bif decide (0 ≤ v1) && decide (v1 < 17) then some () else none).bind fun () => ((p'[Int.toNat v1]?).bind fun y4 => (let v2 : Int := hi' * 65536; let v3 : Int := IntKind.wrap IntKind.u64 v2; let v4 : Int := v3 + y4; let v5 : Int := IntKind.wrap IntKind.u64 v4; let v6 : Int := lo' * 65536; let v7 : Int := IntKind.wrap IntKind.u64 v6; let v8 : Int := v7 + y2; let v9 : Int := IntKind.wrap IntKind.u64 v8; let v10 : Int := i' - 1; let v11 : Int := IntKind.wrap IntKind.i64 v10; some (.inl ((a'_0, (a'_1, ())), ((b'_0, (b'_1, ())), ((t4'_0, (t4'_1, ())), (p', (v5, (v9, (v11, ()))))))))))))) else (some (.inr ((a'_0, (a'_1, ())), ((b'_0, (b'_1, ())), ((t4'_0, (t4'_1, ())), (hi', (lo', ()))))))))
def R13_6 : LA13_6 → Option (LA13_6 ⊕ LB13_6) := Q13_6 N31 N30 N32
def L13_6 : Lc τ := ⟨li13_6, itrs R13_6, lo13_6⟩
abbrev LA13_4 : Type := ((Int × (Int × Unit)) × (Int × (Int × Unit)) × (Int × (Int × Unit)) × List Int × Int × Unit)
abbrev LB13_4 : Type := ((Int × (Int × Unit)) × (Int × (Int × Unit)) × (Int × (Int × Unit)) × List Int × Unit) ⊕ ((Int × (Int × Unit)) × Int × Unit)
def li13_4 : Fr τ LA13_4 := (.ptr 2 none 26 (.val (.int .i64) (.val (.int .u64) .nil)) (.ptr 3 none 26 (.val (.int .i64) (.val (.int .u64) .nil)) (.ptr 4 none 26 (.val (.int .i64) (.val (.int .u64) .nil)) (.aptr 8 17 .u64 (.val 12 (.int .i64) .nil)))))
def lo13_4 : Ot τ LB13_4 := .alt (.exit 4) (.ptr 2 none 26 (.val (.int .i64) (.val (.int .u64) .nil)) (.ptr 3 none 26 (.val (.int .i64) (.val (.int .u64) .nil)) (.ptr 4 none 26 (.val (.int .i64) (.val (.int .u64) .nil)) (.aptr 8 17 .u64 .nil)))) (.one .ret (.ptr 4 none 26 (.val (.int .i64) (.val (.int .u64) .nil)) (.val 5 (.int .i64) .nil)))
def Q13_4 (c31 : A31 → Option B31) (c30 : A30 → Option B30) (c32 : A32 → Option B32) : LA13_4 → Option (LA13_4 ⊕ LB13_4) := fun ⟨⟨a'_0, ⟨a'_1, ()⟩⟩, ⟨⟨b'_0, ⟨b'_1, ()⟩⟩, ⟨⟨t4'_0, ⟨t4'_1, ()⟩⟩, ⟨p', ⟨i', ()⟩⟩⟩⟩⟩ => (bif decide (i' < 17) then ((bif decide (0 ≤ i') && decide (i' < 17) then some () else none).bind fun () => ((p'[Int.toNat i']?).bind fun y2 => (bif y2 != 0 then (some (.inr (.inr ((0, (0, ())), (10, ()))))) else (let v0 : Int := i' + 1; let v1 : Int := IntKind.wrap IntKind.i64 v0; some (.inl ((a'_0, (a'_1, ())), ((b'_0, (b'_1, ())), ((t4'_0, (t4'_1, ())), (p', (v1, ())))))))))) else (some (.inr (.inl ((a'_0, (a'_1, ())), ((b'_0, (b'_1, ())), ((t4'_0, (t4'_1, ())), (p', ()))))))))
def R13_4 : LA13_4 → Option (LA13_4 ⊕ LB13_4) := Q13_4 N31 N30 N32
def L13_4 : Lc τ := ⟨li13_4, itrs R13_4, lo13_4⟩
abbrev LA13_2 : Type := ((Int × (Int × Unit)) × (Int × (Int × Unit)) × (Int × (Int × Unit)) × List Int × List Int × List Int × Int × Int × Int × Unit)
abbrev LB13_2 : Type := ((Int × (Int × Unit)) × (Int × (Int × Unit)) × (Int × (Int × Unit)) × List Int × List Int × List Int × Int × Int × Unit)
def li13_2 : Fr τ LA13_2 := (.ptr 2 none 26 (.val (.int .i64) (.val (.int .u64) .nil)) (.ptr 3 none 26 (.val (.int .i64) (.val (.int .u64) .nil)) (.ptr 4 none 26 (.val (.int .i64) (.val (.int .u64) .nil)) (.aptr 6 8 .u64 (.aptr 7 8 .u64 (.aptr 8 17 .u64 (.val 9 (.int .i64) (.val 10 (.int .u64) (.val 11 (.int .i64) .nil)))))))))
def lo13_2 : Ot τ LB13_2 := .one (.exit 2) (.ptr 2 none 26 (.val (.int .i64) (.val (.int .u64) .nil)) (.ptr 3 none 26 (.val (.int .i64) (.val (.int .u64) .nil)) (.ptr 4 none 26 (.val (.int .i64) (.val (.int .u64) .nil)) (.aptr 6 8 .u64 (.aptr 7 8 .u64 (.aptr 8 17 .u64 (.val 9 (.int .i64) (.val 10 (.int .u64) .nil))))))))
def Q13_2 (c31 : A31 → Option B31) (c30 : A30 → Option B30) (c32 : A32 → Option B32) : LA13_2 → Option (LA13_2 ⊕ LB13_2) := fun ⟨⟨a'_0, ⟨a'_1, ()⟩⟩, ⟨⟨b'_0, ⟨b'_1, ()⟩⟩, ⟨⟨t4'_0, ⟨t4'_1, ()⟩⟩, ⟨x', ⟨y', ⟨p', ⟨i', ⟨c', ⟨j', ()⟩⟩⟩⟩⟩⟩⟩⟩⟩ => (bif decide (j' < 8) then (let v0 : Int := i' + j'; let v1 : Int := IntKind.wrap IntKind.i64 v0; (bif decide (0 ≤ v1) && decide (v1 < 17) then some () else none).bind fun () => ((p'[Int.toNat v1]?).bind fun y2 => ((bif decide (0 ≤ i') && decide (i' < 8) then some () else none).bind fun () => ((x'[Int.toNat i']?).bind fun y4 => ((bif decide (0 ≤ j') && decide (j' < 8) then some () else none).bind fun () => ((y'[Int.toNat j']?).bind fun y6 => ((bif decide (0 ≤ v1) && decide (v1 < 17) then some () else none).bind fun () => ((bif Nat.blt (Int.toNat v1) 17 then some () else none).bind fun () => (let v2 : Int := c' + y2; let v3 : Int := IntKind.wrap IntKind.u64 v2; let v4 : Int := y4 * y6; let v5 : Int := IntKind.wrap IntKind.u64 v4; let v6 : Int := v3 + v5; let v7 : Int := IntKind.wrap IntKind.u64 v6; let v8 : Int := Int.tmod v7 65536; let v9 : Int := Int.tdiv v7 65536; let v10 : Int := IntKind.wrap IntKind.u64 v9; let v11 : Int := j' + 1; let v12 : Int := IntKind.wrap IntKind.i64 v11; some (.inl ((a'_0, (a'_1, ())), ((b'_0, (b'_1, ())), ((t4'_0, (t4'_1, ())), (x', (y', (List.set p' (Int.toNat v1) v8, (i', (v10, (v12, ()))))))))))))))))))) else (some (.inr ((a'_0, (a'_1, ())), ((b'_0, (b'_1, ())), ((t4'_0, (t4'_1, ())), (x', (y', (p', (i', (c', ())))))))))))
def R13_2 : LA13_2 → Option (LA13_2 ⊕ LB13_2) := Q13_2 N31 N30 N32
def L13_2 : Lc τ := ⟨li13_2, itrs R13_2, lo13_2⟩
abbrev LA13_0 : Type := ((Int × (Int × Unit)) × (Int × (Int × Unit)) × (Int × (Int × Unit)) × List Int × List Int × List Int × Int × Unit)
abbrev LB13_0 : Type := ((Int × (Int × Unit)) × (Int × (Int × Unit)) × (Int × (Int × Unit)) × List Int × Unit)
def li13_0 : Fr τ LA13_0 := (.ptr 2 none 26 (.val (.int .i64) (.val (.int .u64) .nil)) (.ptr 3 none 26 (.val (.int .i64) (.val (.int .u64) .nil)) (.ptr 4 none 26 (.val (.int .i64) (.val (.int .u64) .nil)) (.aptr 6 8 .u64 (.aptr 7 8 .u64 (.aptr 8 17 .u64 (.val 9 (.int .i64) .nil)))))))
def lo13_0 : Ot τ LB13_0 := .one (.exit 0) (.ptr 2 none 26 (.val (.int .i64) (.val (.int .u64) .nil)) (.ptr 3 none 26 (.val (.int .i64) (.val (.int .u64) .nil)) (.ptr 4 none 26 (.val (.int .i64) (.val (.int .u64) .nil)) (.aptr 8 17 .u64 .nil))))
def Q13_0 (c31 : A31 → Option B31) (c30 : A30 → Option B30) (c32 : A32 → Option B32) (l13_2 : LA13_2 → Option LB13_2) : LA13_0 → Option (LA13_0 ⊕ LB13_0) := fun ⟨⟨a'_0, ⟨a'_1, ()⟩⟩, ⟨⟨b'_0, ⟨b'_1, ()⟩⟩, ⟨⟨t4'_0, ⟨t4'_1, ()⟩⟩, ⟨x', ⟨y', ⟨p', ⟨i', ()⟩⟩⟩⟩⟩⟩⟩ => (bif decide (i' < 8) then ((l13_2 ((a'_0, (a'_1, ())), ((b'_0, (b'_1, ())), ((t4'_0, (t4'_1, ())), (x', (y', (p', (i', (0, (0, ())))))))))).bind fun ⟨⟨y1_0, ⟨y1_1, ()⟩⟩, ⟨⟨y1_2, ⟨y1_3, ()⟩⟩, ⟨⟨y1_4, ⟨y1_5, ()⟩⟩, ⟨y1_6, ⟨y1_7, ⟨y1_8, ⟨y1_9, ⟨y1_10, ()⟩⟩⟩⟩⟩⟩⟩⟩ => (let v0 : Int := y1_9 + 8; let v1 : Int := IntKind.wrap IntKind.i64 v0; (bif decide (0 ≤ v1) && decide (v1 < 17) then some () else none).bind fun () => ((bif Nat.blt (Int.toNat v1) 17 then some () else none).bind fun () => (let v2 : Int := y1_9 + 1; let v3 : Int := IntKind.wrap IntKind.i64 v2; some (.inl ((y1_0, (y1_1, ())), ((y1_2, (y1_3, ())), ((y1_4, (y1_5, ())), (y1_6, (y1_7, (List.set y1_8 (Int.toNat v1) y1_10, (v3, ())))))))))))) else (some (.inr ((a'_0, (a'_1, ())), ((b'_0, (b'_1, ())), ((t4'_0, (t4'_1, ())), (p', ())))))))
def R13_0 : LA13_0 → Option (LA13_0 ⊕ LB13_0) := Q13_0 N31 N30 N32 (itrs R13_2)
def L13_0 : Lc τ := ⟨li13_0, itrs R13_0, lo13_0⟩
def M13 (c31 : A31 → Option B31) (c30 : A30 → Option B30) (c32 : A32 → Option B32) (l13_0 : LA13_0 → Option LB13_0) (l13_4 : LA13_4 → Option LB13_4) (l13_6 : LA13_6 → Option LB13_6) : A13 → Option B13 := fun ⟨⟨a'_0, a'_1⟩, ⟨⟨b'_0, b'_1⟩, ()⟩⟩ => ((c31 ((a'_0, a'_1), ())).bind fun ⟨y0_0, ⟨y0_1, ()⟩⟩ => ((c30 (y0_0, (y0_1, ()))).bind fun ⟨y1, ()⟩ => ((c31 ((b'_0, b'_1), ())).bind fun ⟨y2_0, ⟨y2_1, ()⟩⟩ => ((c30 (y2_0, (y2_1, ()))).bind fun ⟨y3, ()⟩ => ((l13_0 ((a'_0, (a'_1, ())), ((b'_0, (b'_1, ())), ((0, (0, ())), (y1, (y3, (List.replicate 17 0, (0, ())))))))).bind fun ⟨⟨y4_0, ⟨y4_1, ()⟩⟩, ⟨⟨y4_2, ⟨y4_3, ()⟩⟩, ⟨⟨y4_4, ⟨y4_5, ()⟩⟩, ⟨y4_6, ()⟩⟩⟩⟩ => ((l13_4 ((y4_0, (y4_1, ())), ((y4_2, (y4_3, ())), ((y4_4, (y4_5, ())), (y4_6, (8, ())))))).bind fun y5 => (match y5 with | .inl ⟨⟨y6_0, ⟨y6_1, ()⟩⟩, ⟨⟨y6_2, ⟨y6_3, ()⟩⟩, ⟨⟨y6_4, ⟨y6_5, ()⟩⟩, ⟨y6_6, ()⟩⟩⟩⟩ => ((l13_6 ((y6_0, (y6_1, ())), ((y6_2, (y6_3, ())), ((y6_4, (y6_5, ())), (y6_6, (0, (0, (3, ())))))))).bind fun ⟨⟨y7_0, ⟨y7_1, ()⟩⟩, ⟨⟨y7_2, ⟨y7_3, ()⟩⟩, ⟨⟨y7_4, ⟨y7_5, ()⟩⟩, ⟨y7_6, ⟨y7_7, ()⟩⟩⟩⟩⟩ => ((c32 (!decide (y7_0 < 0) == decide (y7_2 < 0), (y7_6, (y7_7, ())))).bind fun ⟨⟨y8_0, y8_1⟩, ⟨y8_2, ()⟩⟩ => (some ((y8_0, y8_1), (y8_2, ()))))) | .inr ⟨⟨y6_0, ⟨y6_1, ()⟩⟩, ⟨y6_2, ()⟩⟩ => (some ((y6_0, y6_1), (y6_2, ()))))))))))
def N13 : A13 → Option B13 := M13 N31 N30 N32 (itrs R13_0) (itrs R13_4) (itrs R13_6)
def C13 : Ctr τ := ⟨i13, o13, N13⟩
theorem g13 : GOK κ Try.prog (G13 N31 N30 N32) := (gok_cons s31 (gok_cons s30 (gok_cons s32 gok_nil)))
theorem le13_6 : ∀ (c31 : A31 → Option B31) (c30 : A30 → Option B30) (c32 : A32 → Option B32) x, Q13_6 c31 c30 c32 x = run Try.prog κ (G13 c31 c30 c32) (tabL []) 6 (loopAt Try.f13 3) (li13_6.build x) (rnd li13_6 lo13_6) := fun c31 c30 c32 x => by kernel_rfl
theorem le13_4 : ∀ (c31 : A31 → Option B31) (c30 : A30 → Option B30) (c32 : A32 → Option B32) x, Q13_4 c31 c30 c32 x = run Try.prog κ (G13 c31 c30 c32) (tabL []) 4 (loopAt Try.f13 2) (li13_4.build x) (rnd li13_4 lo13_4) := fun c31 c30 c32 x => by kernel_rfl
theorem le13_2 : ∀ (c31 : A31 → Option B31) (c30 : A30 → Option B30) (c32 : A32 → Option B32) x, Q13_2 c31 c30 c32 x = run Try.prog κ (G13 c31 c30 c32) (tabL []) 2 (loopAt Try.f13 1) (li13_2.build x) (rnd li13_2 lo13_2) := fun c31 c30 c32 x => by kernel_rfl
theorem le13_0 : ∀ (c31 : A31 → Option B31) (c30 : A30 → Option B30) (c32 : A32 → Option B32) (l13_2 : LA13_2 → Option LB13_2) x, Q13_0 c31 c30 c32 l13_2 x = run Try.prog κ (G13 c31 c30 c32) (tabL [(2, (⟨li13_2, l13_2, lo13_2⟩ : Lc τ))]) 0 (loopAt Try.f13 0) (li13_0.build x) (rnd li13_0 lo13_0) := fun c31 c30 c32 l13_2 x => by kernel_rfl
theorem linner13_6 : ∀ Z : Zn, Z.rl = [] → 99 ≤ Z.nt → ∀ p ∈ loops 6 (loopAt Try.f13 3), ∀ C, (tabL []) p.1 = some C → LoopOK κ Try.prog Z p.2 C := fun Z h n => fun p hp => (by cases (show p ∈ ([] : List (Nat × Code)) from hp))
theorem lk13_6 : ∀ Z : Zn, Z.rl = [] → 99 ≤ Z.nt → LoopOK κ Try.prog Z (loopAt Try.f13 3) L13_6 := fun Z h n => loop_ok (S := (tabL [])) R13_6 (by kernel_rfl) g13 (by rw [h]; exact dsts_mono n _ (by kernel_rfl)) (linner13_6 Z h n) (by kernel_rfl) (by kernel_rfl) (le13_6 N31 N30 N32) itrs_rounds
theorem linner13_4 : ∀ Z : Zn, Z.rl = [] → 99 ≤ Z.nt → ∀ p ∈ loops 4 (loopAt Try.f13 2), ∀ C, (tabL []) p.1 = some C → LoopOK κ Try.prog Z p.2 C := fun Z h n => fun p hp => (by cases (show p ∈ ([] : List (Nat × Code)) from hp))
theorem lk13_4 : ∀ Z : Zn, Z.rl = [] → 99 ≤ Z.nt → LoopOK κ Try.prog Z (loopAt Try.f13 2) L13_4 := fun Z h n => loop_ok (S := (tabL [])) R13_4 (by kernel_rfl) g13 (by rw [h]; exact dsts_mono n _ (by kernel_rfl)) (linner13_4 Z h n) (by kernel_rfl) (by kernel_rfl) (le13_4 N31 N30 N32) itrs_rounds
theorem linner13_2 : ∀ Z : Zn, Z.rl = [] → 99 ≤ Z.nt → ∀ p ∈ loops 2 (loopAt Try.f13 1), ∀ C, (tabL []) p.1 = some C → LoopOK κ Try.prog Z p.2 C := fun Z h n => fun p hp => (by cases (show p ∈ ([] : List (Nat × Code)) from hp))
theorem lk13_2 : ∀ Z : Zn, Z.rl = [] → 99 ≤ Z.nt → LoopOK κ Try.prog Z (loopAt Try.f13 1) L13_2 := fun Z h n => loop_ok (S := (tabL [])) R13_2 (by kernel_rfl) g13 (by rw [h]; exact dsts_mono n _ (by kernel_rfl)) (linner13_2 Z h n) (by kernel_rfl) (by kernel_rfl) (le13_2 N31 N30 N32) itrs_rounds
theorem linner13_0 : ∀ Z : Zn, Z.rl = [] → 99 ≤ Z.nt → ∀ p ∈ loops 0 (loopAt Try.f13 0), ∀ C, (tabL [(2, L13_2)]) p.1 = some C → LoopOK κ Try.prog Z p.2 C := fun Z h n => all_loops [(2, loopAt Try.f13 1)] (by kernel_rfl) (all_cons (fun C hC => (Option.some.inj hC : L13_2 = C) ▸ lk13_2 Z h n) (fun _ h => by cases h))
theorem lk13_0 : ∀ Z : Zn, Z.rl = [] → 99 ≤ Z.nt → LoopOK κ Try.prog Z (loopAt Try.f13 0) L13_0 := fun Z h n => loop_ok (S := (tabL [(2, L13_2)])) R13_0 (by kernel_rfl) g13 (by rw [h]; exact dsts_mono n _ (by kernel_rfl)) (linner13_0 Z h n) (by kernel_rfl) (by kernel_rfl) (le13_0 N31 N30 N32 (itrs R13_2)) itrs_rounds
theorem lall13 : ∀ Z : Zn, Z.rl = C13.o.keeps → Try.f13.ntmps ≤ Z.nt → ∀ p ∈ loops 0 (bodyOf Try.f13), ∀ C, (tabL [(0, L13_0), (4, L13_4), (6, L13_6)]) p.1 = some C → LoopOK κ Try.prog Z p.2 C := fun Z h n => all_loops [(0, loopAt Try.f13 0), (2, loopAt Try.f13 1), (4, loopAt Try.f13 2), (6, loopAt Try.f13 3)] (by kernel_rfl) (all_cons (fun C hC => (Option.some.inj hC : L13_0 = C) ▸ lk13_0 Z h n) (all_cons (fun C hC => by cases hC) (all_cons (fun C hC => (Option.some.inj hC : L13_4 = C) ▸ lk13_4 Z h n) (all_cons (fun C hC => (Option.some.inj hC : L13_6 = C) ▸ lk13_6 Z h n) (fun _ h => by cases h)))))
theorem e13 : ∀ (c31 : A31 → Option B31) (c30 : A30 → Option B30) (c32 : A32 → Option B32) (l13_0 : LA13_0 → Option LB13_0) (l13_4 : LA13_4 → Option LB13_4) (l13_6 : LA13_6 → Option LB13_6) x, M13 c31 c30 c32 l13_0 l13_4 l13_6 x = fnE Try.prog κ (G13 c31 c30 c32) (tabL [(0, (⟨li13_0, l13_0, lo13_0⟩ : Lc τ)), (4, (⟨li13_4, l13_4, lo13_4⟩ : Lc τ)), (6, (⟨li13_6, l13_6, lo13_6⟩ : Lc τ))]) Try.f13 i13 o13 x := fun c31 c30 c32 l13_0 l13_4 l13_6 x => by kernel_rfl
theorem s13 : Sound κ Try.prog C13 13 := fn_sound (S := (tabL [(0, L13_0), (4, L13_4), (6, L13_6)])) (F := Try.f13) (code := bodyOf Try.f13) (by kernel_rfl) g13 Try.func13 (by kernel_rfl) (by kernel_rfl) (by kernel_rfl) lall13 (by kernel_rfl) (by kernel_rfl) fun x y h => (e13 N31 N30 N32 (itrs R13_0) (itrs R13_4) (itrs R13_6) x).symm.trans h
end Go.Proofs.Ytieeaicdpdidpaa.E
namespace Go.Proofs.Ytieeaicdpdidpaa.E
open Go
set_option linter.unusedVariables false
set_option maxRecDepth 100000
abbrev A3 : Type := ((List T31) × Unit)
abbrev B3 : Type := (Bool × Unit)
def i3 : Fr τ A3 := (.val 0 (.sl 31) .nil)
def o3 : Fr τ B3 := (.val 1000 .bool .nil)
def G3 (c11 : A11 → Option B11) (c12 : A12 → Option B12) (c13 : A13 → Option B13) : Nat → Option (Ctr τ) := tabG [(11, (⟨i11, o11, c11⟩ : Ctr τ)), (12, (⟨i12, o12, c12⟩ : Ctr τ)), (13, (⟨i13, o13, c13⟩ : Ctr τ))]
abbrev LA3_0 : Type := ((List T31) × Int × Unit)
abbrev LB3_0 : Type := (Unit) ⊕ (Bool × Unit)
def li3_0 : Fr τ LA3_0 := (.val 0 (.sl 31) (.val 3 (.int .i64) .nil))
def lo3_0 : Ot τ LB3_0 := .alt (.exit 0) .nil (.one .ret (.val 2 .bool .nil))
def Q3_0 (c11 : A11 → Option B11) (c12 : A12 → Option B12) (c13 : A13 → Option B13) : LA3_0 → Option (LA3_0 ⊕ LB3_0) := fun ⟨list', ⟨i', ()⟩⟩ => (let v0 : Int := ↑(List.length list'); bif decide (i' < v0) then ((bif decide (0 ≤ i') then list'[Int.toNat i']? else none).bind fun ⟨⟨y1_0, y1_1⟩, ⟨y1_2, y1_3⟩⟩ => ((bif decide (0 ≤ i') then list'[Int.toNat i']? else none).bind fun ⟨⟨y2_0, y2_1⟩, ⟨y2_2, y2_3⟩⟩ => ((c12 ((y1_0, y1_1), ((y2_2, y2_3), ()))).bind fun ⟨⟨y3_0, y3_1⟩, ⟨y3_2, ()⟩⟩ => ((bif decide (0 ≤ i') then list'[Int.toNat i']? else none).bind fun ⟨⟨y4_0, y4_1⟩, ⟨y4_2, y4_3⟩⟩ => ((bif decide (0 ≤ i') then list'[Int.toNat i']? else none).bind fun ⟨⟨y5_0, y5_1⟩, ⟨y5_2, y5_3⟩⟩ => ((c13 ((y4_0, y4_1), ((y5_2, y5_3), ()))).bind fun ⟨⟨y6_0, y6_1⟩, ⟨y6_2, ()⟩⟩ => (bif !(y3_0 == y6_0 && y3_1 == y6_1) then (some (.inr (.inr (false, ())))) else (bif y3_2 != y6_2 then (some (.inr (.inr (false, ())))) else (let v1 : Int := i' + 1; let v2 : Int := IntKind.wrap IntKind.i64 v1; some (.inl (list', (v2, ())))))))))))) else (some (.inr (.inl ()))))
def R3_0 : LA3_0 → Option (LA3_0 ⊕ LB3_0) := Q3_0 N11 N12 N13
def L3_0 : Lc τ := ⟨li3_0, itrs R3_0, lo3_0⟩
def M3 (c11 : A11 → Option B11) (c12 : A12 → Option B12) (c13 : A13 → Option B13) (l3_0 : LA3_0 → Option LB3_0) : A3 → Option B3 := fun ⟨list', ()⟩ => ((c11 ()).bind fun ⟨y0, ()⟩ => (bif !y0 then (some (false, ())) else ((l3_0 (list', (0, ()))).bind fun y2 => (match y2 with | .inl () => (some (true, ())) | .inr ⟨y3, ()⟩ => (some (y3, ()))))))
def N3 : A3 → Option B3 := M3 N11 N12 N13 (itrs R3_0)
def C3 : Ctr τ := ⟨i3, o3, N3⟩
theorem g3 : GOK κ Try.prog (G3 N11 N12 N13) := (gok_cons s11 (gok_cons s12 (gok_cons s13 gok_nil)))
theorem le3_0 : ∀ (c11 : A11 → Option B11) (c12 : A12 → Option B12) (c13 : A13 → Option B13) x, Q3_0 c11 c12 c13 x = run Try.prog κ (G3 c11 c12 c13) (tabL []) 0 (loopAt Try.f3 0) (li3_0.build x) (rnd li3_0 lo3_0) := fun c11 c12 c13 x => by kernel_rfl
theorem linner3_0 : ∀ Z : Zn, Z.rl = [] → 52 ≤ Z.nt → ∀ p ∈ loops 0 (loopAt Try.f3 0), ∀ C, (tabL []) p.1 = some C → LoopOK κ Try.prog Z p.2 C := fun Z h n => fun p hp => (by cases (show p ∈ ([] : List (Nat × Code)) from hp))
theorem lk3_0 : ∀ Z : Zn, Z.rl = [] → 52 ≤ Z.nt → LoopOK κ Try.prog Z (loopAt Try.f3 0) L3_0 := fun Z h n => loop_ok (S := (tabL [])) R3_0 (by kernel_rfl) g3 (by rw [h]; exact dsts_mono n _ (by kernel_rfl)) (linner3_0 Z h n) (by kernel_rfl) (by kernel_rfl) (le3_0 N11 N12 N13) itrs_rounds
theorem lall3 : ∀ Z : Zn, Z.rl = C3.o.keeps → Try.f3.ntmps ≤ Z.nt → ∀ p ∈ loops 0 (bodyOf Try.f3), ∀ C, (tabL [(0, L3_0)]) p.1 = some C → LoopOK κ Try.prog Z p.2 C := fun Z h n => all_loops [(0, loopAt Try.f3 0)] (by kernel_rfl) (all_cons (fun C hC => (Option.some.inj hC : L3_0 = C) ▸ lk3_0 Z h n) (fun _ h => by cases h))
theorem e3 : ∀ (c11 : A11 → Option B11) (c12 : A12 → Option B12) (c13 : A13 → Option B13) (l3_0 : LA3_0 → Option LB3_0) x, M3 c11 c12 c13 l3_0 x = fnE Try.prog κ (G3 c11 c12 c13) (tabL [(0, (⟨li3_0, l3_0, lo3_0⟩ : Lc τ))]) Try.f3 i3 o3 x := fun c11 c12 c13 l3_0 x => by kernel_rfl
theorem s3 : Sound κ Try.prog C3 3 := fn_sound (S := (tabL [(0, L3_0)])) (F := Try.f3) (code := bodyOf Try.f3) (by kernel_rfl) g3 Try.func3 (by kernel_rfl) (by kernel_rfl) (by kernel_rfl) lall3 (by kernel_rfl) (by kernel_rfl) fun x y h => (e3 N11 N12 N13 (itrs R3_0) x).symm.trans h
end Go.Proofs.Ytieeaicdpdidpaa.E
namespace Go.Proofs.Ytieeaicdpdidpaa.E
open Go
set_option linter.unusedVariables false
set_option maxRecDepth 100000
abbrev A34 : Type := (Int × Int × Int × Unit)
abbrev B34 : Type := (Int × Int × Unit)
def i34 : Fr τ A34 := (.val 0 (.int .u64) (.val 1 (.int .u64) (.val 2 (.int .u64) .nil)))
def o34 : Fr τ B34 := (.val 1000 (.int .u64) (.val 1001 (.int .u64) .nil))
def G34 : Nat → Option (Ctr τ) := tabG []
def M34 : A34 → Option B34 := fun ⟨hi', ⟨lo', ⟨bit', ()⟩⟩⟩ => (let v0 : Int := hi' * 2; let v1 : Int := IntKind.wrap IntKind.u64 v0; let v2 : Int := Int.fdiv lo' 9223372036854775808; let v3 : Int := v1 + v2; let v4 : Int := IntKind.wrap IntKind.u64 v3; let v5 : Int := lo' * 2; let v6 : Int := IntKind.wrap IntKind.u64 v5; let v7 : Int := v6 + bit'; let v8 : Int := IntKind.wrap IntKind.u64 v7; some (v4, (v8, ())))
def N34 : A34 → Option B34 := M34
def C34 : Ctr τ := ⟨i34, o34, N34⟩
theorem g34 : GOK κ Try.prog (G34) := gok_nil
theorem lall34 : ∀ Z : Zn, Z.rl = C34.o.keeps → Try.f34.ntmps ≤ Z.nt → ∀ p ∈ loops 0 (bodyOf Try.f34), ∀ C, (tabL []) p.1 = some C → LoopOK κ Try.prog Z p.2 C := fun Z h n => fun p hp => (by cases (show p ∈ ([] : List (Nat × Code)) from hp))
theorem e34 : ∀ x, M34 x = fnE Try.prog κ (G34) (tabL []) Try.f34 i34 o34 x := fun x => by kernel_rfl
theorem s34 : Sound κ Try.prog C34 34 := fn_sound (S := (tabL [])) (F := Try.f34) (code := bodyOf Try.f34) (by kernel_rfl) g34 Try.func34 (by kernel_rfl) (by kernel_rfl) (by kernel_rfl) lall34 (by kernel_rfl) (by kernel_rfl) fun x y h => (e34 x).symm.trans h
end Go.Proofs.Ytieeaicdpdidpaa.E
namespace Go.Proofs.Ytieeaicdpdidpaa.E
open Go
set_option linter.unusedVariables false
set_option maxRecDepth 100000
abbrev A35 : Type := (Int × Int × Int × Int × Unit)
abbrev B35 : Type := (Bool × Unit)
def i35 : Fr τ A35 := (.val 0 (.int .u64) (.val 1 (.int .u64) (.val 2 (.int .u64) (.val 3 (.int .u64) .nil))))
def o35 : Fr τ B35 := (.val 1000 .bool .nil)
def G35 : Nat → Option (Ctr τ) := tabG []
def M35 : A35 → Option B35 := fun ⟨ah', ⟨al', ⟨bh', ⟨bl', ()⟩⟩⟩⟩ => (bif decide (ah' > bh') then (some (true, ())) else (bif ah' == bh' then (some (decide (al' ≥ bl'), ())) else (some (false, ()))))
def N35 : A35 → Option B35 := M35
def C35 : Ctr τ := ⟨i35, o35, N35⟩
theorem g35 : GOK κ Try.prog (G35) := gok_nil
theorem lall35 : ∀ Z : Zn, Z.rl = C35.o.keeps → Try.f35.ntmps ≤ Z.nt → ∀ p ∈ loops 0 (bodyOf Try.f35), ∀ C, (tabL []) p.1 = some C → LoopOK κ Try.prog Z p.2 C := fun Z h n => fun p hp => (by cases (show p ∈ ([] : List (Nat × Code)) from hp))
theorem e35 : ∀ x, M35 x = fnE Try.prog κ (G35) (tabL []) Try.f35 i35 o35 x := fun x => by kernel_rfl
theorem s35 : Sound κ Try.prog C35 35 := fn_sound (S := (tabL [])) (F := Try.f35) (code := bodyOf Try.f35) (by kernel_rfl) g35 Try.func35 (by kernel_rfl) (by kernel_rfl) (by kernel_rfl) lall35 (by kernel_rfl) (by kernel_rfl) fun x y h => (e35 x).symm.trans h
end Go.Proofs.Ytieeaicdpdidpaa.E
namespace Go.Proofs.Ytieeaicdpdidpaa.E
open Go
set_option linter.unusedVariables false
set_option maxRecDepth 100000
abbrev A36 : Type := (Int × Int × Int × Int × Unit)
abbrev B36 : Type := (Int × Int × Unit)
def i36 : Fr τ A36 := (.val 0 (.int .u64) (.val 1 (.int .u64) (.val 2 (.int .u64) (.val 3 (.int .u64) .nil))))
def o36 : Fr τ B36 := (.val 1000 (.int .u64) (.val 1001 (.int .u64) .nil))
def G36 : Nat → Option (Ctr τ) := tabG []
def M36 : A36 → Option B36 := fun ⟨ah', ⟨al', ⟨bh', ⟨bl', ()⟩⟩⟩⟩ => (bif decide (al' < bl') then (let v0 : Int := ah' - bh'; let v1 : Int := IntKind.wrap IntKind.u64 v0; let v2 : Int := v1 - 1; let v3 : Int := IntKind.wrap IntKind.u64 v2; let v4 : Int := al' - bl'; let v5 : Int := IntKind.wrap IntKind.u64 v4; some (v3, (v5, ()))) else (let v0 : Int := ah' - bh'; let v1 : Int := IntKind.wrap IntKind.u64 v0; let v2 : Int := al' - bl'; let v3 : Int := IntKind.wrap IntKind.u64 v2; some (v1, (v3, ()))))
def N36 : A36 → Option B36 := M36
def C36 : Ctr τ := ⟨i36, o36, N36⟩
theorem g36 : GOK κ Try.prog (G36) := gok_nil
theorem lall36 : ∀ Z : Zn, Z.rl = C36.o.keeps → Try.f36.ntmps ≤ Z.nt → ∀ p ∈ loops 0 (bodyOf Try.f36), ∀ C, (tabL []) p.1 = some C → LoopOK κ Try.prog Z p.2 C := fun Z h n => fun p hp => (by cases (show p ∈ ([] : List (Nat × Code)) from hp))
theorem e36 : ∀ x, M36 x = fnE Try.prog κ (G36) (tabL []) Try.f36 i36 o36 x := fun x => by kernel_rfl
theorem s36 : Sound κ Try.prog C36 36 := fn_sound (S := (tabL [])) (F := Try.f36) (code := bodyOf Try.f36) (by kernel_rfl) g36 Try.func36 (by kernel_rfl) (by kernel_rfl) (by kernel_rfl) lall36 (by kernel_rfl) (by kernel_rfl) fun x y h => (e36 x).symm.trans h
end Go.Proofs.Ytieeaicdpdidpaa.E
namespace Go.Proofs.Ytieeaicdpdidpaa.E
open Go
set_option linter.unusedVariables false
set_option maxRecDepth 100000
abbrev A15 : Type := ((Int × Int) × (Int × Int) × Unit)
abbrev B15 : Type := ((Int × Int) × (Int × Int) × Int × Unit)
def i15 : Fr τ A15 := (.val 0 (.pair (.int .i64) (.int .u64)) (.val 1 (.pair (.int .i64) (.int .u64)) .nil))
def o15 : Fr τ B15 := (.val 1000 (.pair (.int .i64) (.int .u64)) (.val 1001 (.pair (.int .i64) (.int .u64)) (.val 1002 (.int .i64) .nil)))
def G15 (c31 : A31 → Option B31) (c34 : A34 → Option B34) (c35 : A35 → Option B35) (c36 : A36 → Option B36) (c32 : A32 → Option B32) : Nat → Option (Ctr τ) := tabG [(31, (⟨i31, o31, c31⟩ : Ctr τ)), (34, (⟨i34, o34, c34⟩ : Ctr τ)), (35, (⟨i35, o35, c35⟩ : Ctr τ)), (36, (⟨i36, o36, c36⟩ : Ctr τ)), (32, (⟨i32, o32, c32⟩ : Ctr τ))]
abbrev LA15_0 : Type := ((Int × (Int × Unit)) × (Int × (Int × Unit)) × (Int × (Int × Unit)) × (Int × (Int × Unit)) × Int × Int × Int × Int × Int × Int × Int × Int × Int × Unit)
abbrev LB15_0 : Type := ((Int × (Int × Unit)) × (Int × (Int × Unit)) × (Int × (Int × Unit)) × (Int × (Int × Unit)) × Int × Int × Int × Int × Unit)
def li15_0 : Fr τ LA15_0 := (.ptr 2 none 26 (.val (.int .i64) (.val (.int .u64) .nil)) (.ptr 3 none 26 (.val (.int .i64) (.val (.int .u64) .nil)) (.ptr 4 none 26 (.val (.int .i64) (.val (.int .u64) .nil)) (.ptr 5 none 26 (.val (.int .i64) (.val (.int .u64) .nil)) (.val 7 (.int .u64) (.val 8 (.int .u64) (.val 9 (.int .u64) (.val 10 (.int .u64) (.val 11 (.int .u64) (.val 12 (.int .u64) (.val 13 (.int .u64) (.val 14 (.int .u64) (.val 15 (.int .i64) .nil)))))))))))))
def lo15_0 : Ot τ LB15_0 := .one (.exit 0) (.ptr 2 none 26 (.val (.int .i64) (.val (.int .u64) .nil)) (.ptr 3 none 26 (.val (.int .i64) (.val (.int .u64) .nil)) (.ptr 4 none 26 (.val (.int .i64) (.val (.int .u64) .nil)) (.ptr 5 none 26 (.val (.int .i64) (.val (.int .u64) .nil)) (.val 11 (.int .u64) (.val 12 (.int .u64) (.val 13 (.int .u64) (.val 14 (.int .u64) .nil))))))))
def Q15_0 (c31 : A31 → Option B31) (c34 : A34 → Option B34) (c35 : A35 → Option B35) (c36 : A36 → Option B36) (c32 : A32 → Option B32) : LA15_0 → Option (LA15_0 ⊕ LB15_0) := fun ⟨⟨a'_0, ⟨a'_1, ()⟩⟩, ⟨⟨b'_0, ⟨b'_1, ()⟩⟩, ⟨⟨t4'_0, ⟨t4'_1, ()⟩⟩, ⟨⟨t5'_0, ⟨t5'_1, ()⟩⟩, ⟨ah', ⟨al', ⟨bh', ⟨bl', ⟨qh', ⟨ql', ⟨rh', ⟨rl', ⟨i', ()⟩⟩⟩⟩⟩⟩⟩⟩⟩⟩⟩⟩⟩ => (bif decide (i' ≥ 0) then (let v0 : Int := Int.tmod i' 64; let v1 : Int := IntKind.wrap IntKind.u64 v0; (bif decide (0 ≤ v1) then some () else none).bind fun () => (bif decide (i' ≥ 64) then ((bif decide (0 ≤ v1) then some () else none).bind fun () => (let v2 : Int := Int.fdiv ah' (2 ^ min (Int.toNat v1) 64); let v3 : Int := Int.tmod v2 2; (c34 (rh', (rl', (v3, ())))).bind fun ⟨y4_0, ⟨y4_1, ()⟩⟩ => ((c35 (y4_0, (y4_1, (bh', (bl', ()))))).bind fun ⟨y5, ()⟩ => (bif y5 then ((c36 (y4_0, (y4_1, (bh', (bl', ()))))).bind fun ⟨y7_0, ⟨y7_1, ()⟩⟩ => ((c34 (qh', (ql', (1, ())))).bind fun ⟨y8_0, ⟨y8_1, ()⟩⟩ => (let v4 : Int := i' - 1; let v5 : Int := IntKind.wrap IntKind.i64 v4; some (.inl ((a'_0, (a'_1, ())), ((b'_0, (b'_1, ())), ((t4'_0, (t4'_1, ())), ((t5'_0, (t5'_1, ())), (ah', (al', (bh', (bl', (y8_0, (y8_1, (y7_0, (y7_1, (v5, ()))))))))))))))))) else ((c34 (qh', (ql', (0, ())))).bind fun ⟨y7_0, ⟨y7_1, ()⟩⟩ => (let v4 : Int := i' - 1; let v5 : Int := IntKind.wrap IntKind.i64 v4; some (.inl ((a'_0, (a'_1, ())), ((b'_0, (b'_1, ())), ((t4'_0, (t4'_1, ())), ((t5'_0, (t5'_1, ())), (ah', (al', (bh', (bl', (y7_0, (y7_1, (y4_0, (y4_1, (v5, ())))))))))))))))))))) else (let v2 : Int := Int.fdiv al' (2 ^ min (Int.toNat v1) 64); let v3 : Int := Int.tmod v2 2; (c34 (rh', (rl', (v3, ())))).bind fun ⟨y3_0, ⟨y3_1, ()⟩⟩ => ((c35 (y3_0, (y3_1, (bh', (bl', ()))))).bind fun ⟨y4, ()⟩ => (bif y4 then ((c36 (y3_0, (y3_1, (bh', (bl', ()))))).bind fun ⟨y6_0, ⟨y6_1, ()⟩⟩ => ((c34 (qh', (ql', (1, ())))).bind fun ⟨y7_0, ⟨y7_1, ()⟩⟩ => (let v4 : Int := i' - 1; let v5 : Int := IntKind.wrap IntKind.i64 v4; some (.inl ((a'_0, (a'_1, ())), ((b'_0, (b'_1, ())), ((t4'_0, (t4'_1, ())), ((t5'_0, (t5'_1, ())), (ah', (al', (bh', (bl', (y7_0, (y7_1, (y6_0, (y6_1, (v5, ()))))))))))))))))) else ((c34 (qh', (ql', (0, ())))).bind fun ⟨y6_0, ⟨y6_1, ()⟩⟩ => (let v4 : Int := i' - 1; let v5 : Int := IntKind.wrap IntKind.i64 v4; some (.inl ((a'_0, (a'_1, ())), ((b'_0, (b'_1, ())), ((t4'_0, (t4'_1, ())), ((t5'_0, (t5'_1, ())), (ah', (al', (bh', (bl', (y6_0, (y6_1, (y3_0, (y3_1, (v5, ()))))))))))))))))))))) else (some (.inr ((a'_0, (a'_1, ())), ((b'_0, (b'_1, ())), ((t4'_0, (t4'_1, ())), ((t5'_0, (t5'_1, ())), (qh', (ql', (rh', (rl', ())))))))))))
def R15_0 : LA15_0 → Option (LA15_0 ⊕ LB15_0) := Q15_0 N31 N34 N35 N36 N32
def L15_0 : Lc τ := ⟨li15_0, itrs R15_0, lo15_0⟩
def M15 (c31 : A31 → Option B31) (c34 : A34 → Option B34) (c35 : A35 → Option B35) (c36 : A36 → Option B36) (c32 : A32 → Option B32) (l15_0 : LA15_0 → Option LB15_0) : A15 → Option B15 := fun ⟨⟨a'_0, a'_1⟩, ⟨⟨b'_0, b'_1⟩, ()⟩⟩ => (bif b'_0 == 0 then (bif b'_1 == 0 then (some ((0, 0), ((0, 0), (20, ())))) else ((c31 ((a'_0, a'_1), ())).bind fun ⟨y2_0, ⟨y2_1, ()⟩⟩ => ((c31 ((b'_0, b'_1), ())).bind fun ⟨y3_0, ⟨y3_1, ()⟩⟩ => ((l15_0 ((a'_0, (a'_1, ())), ((b'_0, (b'_1, ())), ((0, (0, ())), ((0, (0, ())), (y2_0, (y2_1, (y3_0, (y3_1, (0, (0, (0, (0, (127, ())))))))))))))).bind fun ⟨⟨y4_0, ⟨y4_1, ()⟩⟩, ⟨⟨y4_2, ⟨y4_3, ()⟩⟩, ⟨⟨y4_4, ⟨y4_5, ()⟩⟩, ⟨⟨y4_6, ⟨y4_7, ()⟩⟩, ⟨y4_8, ⟨y4_9, ⟨y4_10, ⟨y4_11, ()⟩⟩⟩⟩⟩⟩⟩⟩ => ((c32 (!decide (y4_0 < 0) == decide (y4_2 < 0), (y4_8, (y4_9, ())))).bind fun ⟨⟨y5_0, y5_1⟩, ⟨y5_2, ()⟩⟩ => (bif y5_2 != 0 then (some ((0, 0), ((0, 0), (y5_2, ())))) else ((c32 (decide (y4_0 < 0), (y4_10, (y4_11, ())))).bind fun ⟨⟨y7_0, y7_1⟩, ⟨y7_2, ()⟩⟩ => (some ((y5_0, y5_1), ((y7_0, y7_1), (0, ()))))))))))) else ((c31 ((a'_0, a'_1), ())).bind fun ⟨y1_0, ⟨y1_1, ()⟩⟩ => ((c31 ((b'_0, b'_1), ())).bind fun ⟨y2_0, ⟨y2_1, ()⟩⟩ => ((l15_0 ((a'_0, (a'_1, ())), ((b'_0, (b'_1, ())), ((0, (0, ())), ((0, (0, ())), (y1_0, (y1_1, (y2_0, (y2_1, (0, (0, (0, (0, (127, ())))))))))))))).bind fun ⟨⟨y3_0, ⟨y3_1, ()⟩⟩, ⟨⟨y3_2, ⟨y3_3, ()⟩⟩, ⟨⟨y3_4, ⟨y3_5, ()⟩⟩, ⟨⟨y3_6, ⟨y3_7, ()⟩⟩, ⟨y3_8, ⟨y3_9, ⟨y3_10, ⟨y3_11, ()⟩⟩⟩⟩⟩⟩⟩⟩ => ((c32 (!decide (y3_0 < 0) == decide (y3_2 < 0), (y3_8, (y3_9, ())))).bind fun ⟨⟨y4_0, y4_1⟩, ⟨y4_2, ()⟩⟩ => (bif y4_2 != 0 then (some ((0, 0), ((0, 0), (y4_2, ())))) else ((c32 (decide (y3_0 < 0), (y3_10, (y3_11, ())))).bind fun ⟨⟨y6_0, y6_1⟩, ⟨y6_2, ()⟩⟩ => (some ((y4_0, y4_1), ((y6_0, y6_1), (0, ())))))))))))
def N15 : A15 → Option B15 := M15 N31 N34 N35 N36 N32 (itrs R15_0)
def C15 : Ctr τ := ⟨i15, o15, N15⟩
theorem g15 : GOK κ Try.prog (G15 N31 N34 N35 N36 N32) := (gok_cons s31 (gok_cons s34 (gok_cons s35 (gok_cons s36 (gok_cons s32 gok_nil)))))
theorem le15_0 : ∀ (c31 : A31 → Option B31) (c34 : A34 → Option B34) (c35 : A35 → Option B35) (c36 : A36 → Option B36) (c32 : A32 → Option B32) x, Q15_0 c31 c34 c35 c36 c32 x = run Try.prog κ (G15 c31 c34 c35 c36 c32) (tabL []) 0 (loopAt Try.f15 0) (li15_0.build x) (rnd li15_0 lo15_0) := fun c31 c34 c35 c36 c32 x => by kernel_rfl
theorem linner15_0 : ∀ Z : Zn, Z.rl = [] → 115 ≤ Z.nt → ∀ p ∈ loops 0 (loopAt Try.f15 0), ∀ C, (tabL []) p.1 = some C → LoopOK κ Try.prog Z p.2 C := fun Z h n => fun p hp => (by cases (show p ∈ ([] : List (Nat × Code)) from hp))
theorem lk15_0 : ∀ Z : Zn, Z.rl = [] → 115 ≤ Z.nt → LoopOK κ Try.prog Z (loopAt Try.f15 0) L15_0 := fun Z h n => loop_ok (S := (tabL [])) R15_0 (by kernel_rfl) g15 (by rw [h]; exact dsts_mono n _ (by kernel_rfl)) (linner15_0 Z h n) (by kernel_rfl) (by kernel_rfl) (le15_0 N31 N34 N35 N36 N32) itrs_rounds
theorem lall15 : ∀ Z : Zn, Z.rl = C15.o.keeps → Try.f15.ntmps ≤ Z.nt → ∀ p ∈ loops 0 (bodyOf Try.f15), ∀ C, (tabL [(0, L15_0)]) p.1 = some C → LoopOK κ Try.prog Z p.2 C := fun Z h n => all_loops [(0, loopAt Try.f15 0)] (by kernel_rfl) (all_cons (fun C hC => (Option.some.inj hC : L15_0 = C) ▸ lk15_0 Z h n) (fun _ h => by cases h))
theorem e15 : ∀ (c31 : A31 → Option B31) (c34 : A34 → Option B34) (c35 : A35 → Option B35) (c36 : A36 → Option B36) (c32 : A32 → Option B32) (l15_0 : LA15_0 → Option LB15_0) x, M15 c31 c34 c35 c36 c32 l15_0 x = fnE Try.prog κ (G15 c31 c34 c35 c36 c32) (tabL [(0, (⟨li15_0, l15_0, lo15_0⟩ : Lc τ))]) Try.f15 i15 o15 x := fun c31 c34 c35 c36 c32 l15_0 x => by kernel_rfl
theorem s15 : Sound κ Try.prog C15 15 := fn_sound (S := (tabL [(0, L15_0)])) (F := Try.f15) (code := bodyOf Try.f15) (by kernel_rfl) g15 Try.func15 (by kernel_rfl) (by kernel_rfl) (by kernel_rfl) lall15 (by kernel_rfl) (by kernel_rfl) fun x y h => (e15 N31 N34 N35 N36 N32 (itrs R15_0) x).symm.trans h
end Go.Proofs.Ytieeaicdpdidpaa.E
namespace Go.Proofs.Ytieeaicdpdidpaa.E
open Go
set_option linter.unusedVariables false
set_option maxRecDepth 100000
abbrev A4 : Type := ((List T31) × Unit)
abbrev B4 : Type := (Bool × Unit)
def i4 : Fr τ A4 := (.val 0 (.sl 31) .nil)
def o4 : Fr τ B4 := (.val 1000 .bool .nil)
def G4 (c11 : A11 → Option B11) (c14 : A14 → Option B14) (c15 : A15 → Option B15) : Nat → Option (Ctr τ) := tabG [(11, (⟨i11, o11, c11⟩ : Ctr τ)), (14, (⟨i14, o14, c14⟩ : Ctr τ)), (15, (⟨i15, o15, c15⟩ : Ctr τ))]
abbrev LA4_0 : Type := ((List T31) × Int × Unit)
abbrev LB4_0 : Type := (Unit) ⊕ (Bool × Unit)
def li4_0 : Fr τ LA4_0 := (.val 0 (.sl 31) (.val 3 (.int .i64) .nil))
def lo4_0 : Ot τ LB4_0 := .alt (.exit 0) .nil (.one .ret (.val 2 .bool .nil))
def Q4_0 (c11 : A11 → Option B11) (c14 : A14 → Option B14) (c15 : A15 → Option B15) : LA4_0 → Option (LA4_0 ⊕ LB4_0) := fun ⟨list', ⟨i', ()⟩⟩ => (let v0 : Int := ↑(List.length list'); bif decide (i' < v0) then ((bif decide (0 ≤ i') then list'[Int.toNat i']? else none).bind fun ⟨⟨y1_0, y1_1⟩, ⟨y1_2, y1_3⟩⟩ => ((bif decide (0 ≤ i') then list'[Int.toNat i']? else none).bind fun ⟨⟨y2_0, y2_1⟩, ⟨y2_2, y2_3⟩⟩ => ((c14 ((y1_0, y1_1), ((y2_2, y2_3), ()))).bind fun ⟨⟨y3_0, y3_1⟩, ⟨⟨y3_2, y3_3⟩, ⟨y3_4, ()⟩⟩⟩ => ((bif decide (0 ≤ i') then list'[Int.toNat i']? else none).bind fun ⟨⟨y4_0, y4_1⟩, ⟨y4_2, y4_3⟩⟩ => ((bif decide (0 ≤ i') then list'[Int.toNat i']? else none).bind fun ⟨⟨y5_0, y5_1⟩, ⟨y5_2, y5_3⟩⟩ => ((c15 ((y4_0, y4_1), ((y5_2, y5_3), ()))).bind fun ⟨⟨y6_0, y6_1⟩, ⟨⟨y6_2, y6_3⟩, ⟨y6_4, ()⟩⟩⟩ => (bif !(y3_0 == y6_0 && y3_1 == y6_1) then (some (.inr (.inr (false, ())))) else (bif !(y3_2 == y6_2 && y3_3 == y6_3) then (some (.inr (.inr (false, ())))) else (bif y3_4 != y6_4 then (some (.inr (.inr (false, ())))) else (let v1 : Int := i' + 1; let v2 : Int := IntKind.wrap IntKind.i64 v1; some (.inl (list', (v2, ()))))))))))))) else (some (.inr (.inl ()))))
def R4_0 : LA4_0 → Option (LA4_0 ⊕ LB4_0) := Q4_0 N11 N14 N15
def L4_0 : Lc τ := ⟨li4_0, itrs R4_0, lo4_0⟩
def M4 (c11 : A11 → Option B11) (c14 : A14 → Option B14) (c15 : A15 → Option B15) (l4_0 : LA4_0 → Option LB4_0) : A4 → Option B4 := fun ⟨list', ()⟩ => ((c11 ()).bind fun ⟨y0, ()⟩ => (bif !y0 then (some (false, ())) else ((l4_0 (list', (0, ()))).bind fun y2 => (match y2 with | .inl () => (some (true, ())) | .inr ⟨y3, ()⟩ => (some (y3, ()))))))
def N4 : A4 → Option B4 := M4 N11 N14 N15 (itrs R4_0)
def C4 : Ctr τ := ⟨i4, o4, N4⟩
theorem g4 : GOK κ Try.prog (G4 N11 N14 N15) := (gok_cons s11 (gok_cons s14 (gok_cons s15 gok_nil)))
theorem le4_0 : ∀ (c11 : A11 → Option B11) (c14 : A14 → Option B14) (c15 : A15 → Option B15) x, Q4_0 c11 c14 c15 x = run Try.prog κ (G4 c11 c14 c15) (tabL []) 0 (loopAt Try.f4 0) (li4_0.build x) (rnd li4_0 lo4_0) := fun c11 c14 c15 x => by kernel_rfl
theorem linner4_0 : ∀ Z : Zn, Z.rl = [] → 61 ≤ Z.nt → ∀ p ∈ loops 0 (loopAt Try.f4 0), ∀ C, (tabL []) p.1 = some C → LoopOK κ Try.prog Z p.2 C := fun Z h n => fun p hp => (by cases (show p ∈ ([] : List (Nat × Code)) from hp))
theorem lk4_0 : ∀ Z : Zn, Z.rl = [] → 61 ≤ Z.nt → LoopOK κ Try.prog Z (loopAt Try.f4 0) L4_0 := fun Z h n => loop_ok (S := (tabL [])) R4_0 (by kernel_rfl) g4 (by rw [h]; exact dsts_mono n _ (by kernel_rfl)) (linner4_0 Z h n) (by kernel_rfl) (by kernel_rfl) (le4_0 N11 N14 N15) itrs_rounds
theorem lall4 : ∀ Z : Zn, Z.rl = C4.o.keeps → Try.f4.ntmps ≤ Z.nt → ∀ p ∈ loops 0 (bodyOf Try.f4), ∀ C, (tabL [(0, L4_0)]) p.1 = some C → LoopOK κ Try.prog Z p.2 C := fun Z h n => all_loops [(0, loopAt Try.f4 0)] (by kernel_rfl) (all_cons (fun C hC => (Option.some.inj hC : L4_0 = C) ▸ lk4_0 Z h n) (fun _ h => by cases h))
theorem e4 : ∀ (c11 : A11 → Option B11) (c14 : A14 → Option B14) (c15 : A15 → Option B15) (l4_0 : LA4_0 → Option LB4_0) x, M4 c11 c14 c15 l4_0 x = fnE Try.prog κ (G4 c11 c14 c15) (tabL [(0, (⟨li4_0, l4_0, lo4_0⟩ : Lc τ))]) Try.f4 i4 o4 x := fun c11 c14 c15 l4_0 x => by kernel_rfl
theorem s4 : Sound κ Try.prog C4 4 := fn_sound (S := (tabL [(0, L4_0)])) (F := Try.f4) (code := bodyOf Try.f4) (by kernel_rfl) g4 Try.func4 (by kernel_rfl) (by kernel_rfl) (by kernel_rfl) lall4 (by kernel_rfl) (by kernel_rfl) fun x y h => (e4 N11 N14 N15 (itrs R4_0) x).symm.trans h
end Go.Proofs.Ytieeaicdpdidpaa.E
namespace Go.Proofs.Ytieeaicdpdidpaa.E
open Go
set_option linter.unusedVariables false
set_option maxRecDepth 100000
abbrev A38 : Type := ((Int × Int) × (Int × Int) × (Int × Int) × Int × Unit)
abbrev B38 : Type := (Bool × Unit)
def i38 : Fr τ A38 := (.val 0 (.pair (.int .i64) (.int .u64)) (.val 1 (.pair (.int .i64) (.int .u64)) (.val 2 (.pair (.int .i64) (.int .u64)) (.val 3 (.int .i64) .nil))))
def o38 : Fr τ B38 := (.val 1000 .bool .nil)
def G38 (c31 : A31 → Option B31) (c36 : A36 → Option B36) (c35 : A35 → Option B35) : Nat → Option (Ctr τ) := tabG [(31, (⟨i31, o31, c31⟩ : Ctr τ)), (36, (⟨i36, o36, c36⟩ : Ctr τ)), (35, (⟨i35, o35, c35⟩ : Ctr τ))]
def M38 (c31 : A31 → Option B31) (c36 : A36 → Option B36) (c35 : A35 → Option B35) : A38 → Option B38 := fun ⟨⟨q'_0, q'_1⟩, ⟨⟨r'_0, r'_1⟩, ⟨⟨b'_0, b'_1⟩, ⟨mode', ()⟩⟩⟩⟩ => ((c31 ((r'_0, r'_1), ())).bind fun ⟨y0_0, ⟨y0_1, ()⟩⟩ => ((c31 ((b'_0, b'_1), ())).bind fun ⟨y1_0, ⟨y1_1, ()⟩⟩ => ((c36 (y1_0, (y1_1, (y0_0, (y0_1, ()))))).bind fun ⟨y2_0, ⟨y2_1, ()⟩⟩ => (bif y0_0 == y2_0 then (bif y0_1 == y2_1 then (bif mode' == 3 then (some (true, ())) else (let v0 : Int := Int.tmod q'_1 2; some (v0 == 1, ()))) else ((c35 (y0_0, (y0_1, (y2_0, (y2_1, ()))))).bind fun ⟨y5, ()⟩ => (some (y5, ())))) else ((c35 (y0_0, (y0_1, (y2_0, (y2_1, ()))))).bind fun ⟨y4, ()⟩ => (some (y4, ())))))))
def N38 : A38 → Option B38 := M38 N31 N36 N35
def C38 : Ctr τ := ⟨i38, o38, N38⟩
theorem g38 : GOK κ Try.prog (G38 N31 N36 N35) := (gok_cons s31 (gok_cons s36 (gok_cons s35 gok_nil)))
theorem lall38 : ∀ Z : Zn, Z.rl = C38.o.keeps → Try.f38.ntmps ≤ Z.nt → ∀ p ∈ loops 0 (bodyOf Try.f38), ∀ C, (tabL []) p.1 = some C → LoopOK κ Try.prog Z p.2 C := fun Z h n => fun p hp => (by cases (show p ∈ ([] : List (Nat × Code)) from hp))
theorem e38 : ∀ (c31 : A31 → Option B31) (c36 : A36 → Option B36) (c35 : A35 → Option B35) x, M38 c31 c36 c35 x = fnE Try.prog κ (G38 c31 c36 c35) (tabL []) Try.f38 i38 o38 x := fun c31 c36 c35 x => by kernel_rfl
theorem s38 : Sound κ Try.prog C38 38 := fn_sound (S := (tabL [])) (F := Try.f38) (code := bodyOf Try.f38) (by kernel_rfl) g38 Try.func38 (by kernel_rfl) (by kernel_rfl) (by kernel_rfl) lall38 (by kernel_rfl) (by kernel_rfl) fun x y h => (e38 N31 N36 N35 x).symm.trans h
end Go.Proofs.Ytieeaicdpdidpaa.E
namespace Go.Proofs.Ytieeaicdpdidpaa.E
open Go
set_option linter.unusedVariables false
set_option maxRecDepth 100000
abbrev A40 : Type := (Int × Unit)
abbrev B40 : Type := ((Int × Int) × Unit)
def i40 : Fr τ A40 := (.val 0 (.int .i64) .nil)
def o40 : Fr τ B40 := (.val 1000 (.pair (.int .i64) (.int .u64)) .nil)
def G40 : Nat → Option (Ctr τ) := tabG []
def M40 : A40 → Option B40 := fun ⟨v', ()⟩ => (bif decide (v' < 0) then (let v0 : Int := IntKind.wrap IntKind.u64 v'; some ((-1, v0), ())) else (let v0 : Int := IntKind.wrap IntKind.u64 v'; some ((0, v0), ())))
def N40 : A40 → Option B40 := M40
def C40 : Ctr τ := ⟨i40, o40, N40⟩
theorem g40 : GOK κ Try.prog (G40) := gok_nil
theorem lall40 : ∀ Z : Zn, Z.rl = C40.o.keeps → Try.f40.ntmps ≤ Z.nt → ∀ p ∈ loops 0 (bodyOf Try.f40), ∀ C, (tabL []) p.1 = some C → LoopOK κ Try.prog Z p.2 C := fun Z h n => fun p hp => (by cases (show p ∈ ([] : List (Nat × Code)) from hp))
theorem e40 : ∀ x, M40 x = fnE Try.prog κ (G40) (tabL []) Try.f40 i40 o40 x := fun x => by kernel_rfl
theorem s40 : Sound κ Try.prog C40 40 := fn_sound (S := (tabL [])) (F := Try.f40) (code := bodyOf Try.f40) (by kernel_rfl) g40 Try.func40 (by kernel_rfl) (by kernel_rfl) (by kernel_rfl) lall40 (by kernel_rfl) (by kernel_rfl) fun x y h => (e40 x).symm.trans h
end Go.Proofs.Ytieeaicdpdidpaa.E
namespace Go.Proofs.Ytieeaicdpdidpaa.E
open Go
set_option linter.unusedVariables false
set_option maxRecDepth 100000
abbrev A39 : Type := ((Int × Int) × (Int × Int) × Unit)
abbrev B39 : Type := ((Int × Int) × Int × Unit)
def i39 : Fr τ A39 := (.val 0 (.pair (.int .i64) (.int .u64)) (.val 1 (.pair (.int .i64) (.int .u64)) .nil))
def o39 : Fr τ B39 := (.val 1000 (.pair (.int .i64) (.int .u64)) (.val 1001 (.int .i64) .nil))
def G39 (c44 : A44 → Option B44) (c46 : A46 → Option B46) (c49 : A49 → Option B49) (c47 : A47 → Option B47) : Nat → Option (Ctr τ) := tabG [(44, (⟨i44, o44, c44⟩ : Ctr τ)), (46, (⟨i46, o46, c46⟩ : Ctr τ)), (49, (⟨i49, o49, c49⟩ : Ctr τ)), (47, (⟨i47, o47, c47⟩ : Ctr τ))]
def M39 (c44 : A44 → Option B44) (c46 : A46 → Option B46) (c49 : A49 → Option B49) (c47 : A47 → Option B47) : A39 → Option B39 := fun ⟨⟨a'_0, a'_1⟩, ⟨⟨b'_0, b'_1⟩, ()⟩⟩ => ((c44 ((a'_0, a'_1), ())).bind fun ⟨y0, ()⟩ => ((c44 ((b'_0, b'_1), ())).bind fun ⟨y1, ()⟩ => ((c46 (y1, ())).bind fun ⟨y2, ()⟩ => ((c49 (y0, (y2, ()))).bind fun ⟨y3, ()⟩ => ((c47 (y3, ())).bind fun ⟨⟨y4_0, y4_1⟩, ⟨y4_2, ()⟩⟩ => (some ((y4_0, y4_1), (y4_2, ()))))))))
def N39 : A39 → Option B39 := M39 N44 N46 N49 N47
def C39 : Ctr τ := ⟨i39, o39, N39⟩
theorem g39 : GOK κ Try.prog (G39 N44 N46 N49 N47) := (gok_cons s44 (gok_cons s46 (gok_cons s49 (gok_cons s47 gok_nil))))
theorem lall39 : ∀ Z : Zn, Z.rl = C39.o.keeps → Try.f39.ntmps ≤ Z.nt → ∀ p ∈ loops 0 (bodyOf Try.f39), ∀ C, (tabL []) p.1 = some C → LoopOK κ Try.prog Z p.2 C := fun Z h n => fun p hp => (by cases (show p ∈ ([] : List (Nat × Code)) from hp))
theorem e39 : ∀ (c44 : A44 → Option B44) (c46 : A46 → Option B46) (c49 : A49 → Option B49) (c47 : A47 → Option B47) x, M39 c44 c46 c49 c47 x = fnE Try.prog κ (G39 c44 c46 c49 c47) (tabL []) Try.f39 i39 o39 x := fun c44 c46 c49 c47 x => by kernel_rfl
theorem s39 : Sound κ Try.prog C39 39 := fn_sound (S := (tabL [])) (F := Try.f39) (code := bodyOf Try.f39) (by kernel_rfl) g39 Try.func39 (by kernel_rfl) (by kernel_rfl) (by kernel_rfl) lall39 (by kernel_rfl) (by kernel_rfl) fun x y h => (e39 N44 N46 N49 N47 x).symm.trans h
end Go.Proofs.Ytieeaicdpdidpaa.E
namespace Go.Proofs.Ytieeaicdpdidpaa.E
open Go
set_option linter.unusedVariables false
set_option maxRecDepth 100000
abbrev A41 : Type := ((Int × Int) × (Int × Int) × Unit)
abbrev B41 : Type := ((Int × Int) × Int × Unit)
def i41 : Fr τ A41 := (.val 0 (.pair (.int .i64) (.int .u64)) (.val 1 (.pair (.int .i64) (.int .u64)) .nil))
def o41 : Fr τ B41 := (.val 1000 (.pair (.int .i64) (.int .u64)) (.val 1001 (.int .i64) .nil))
def G41 (c44 : A44 → Option B44) (c49 : A49 → Option B49) (c47 : A47 → Option B47) : Nat → Option (Ctr τ) := tabG [(44, (⟨i44, o44, c44⟩ : Ctr τ)), (49, (⟨i49, o49, c49⟩ : Ctr τ)), (47, (⟨i47, o47, c47⟩ : Ctr τ))]
def M41 (c44 : A44 → Option B44) (c49 : A49 → Option B49) (c47 : A47 → Option B47) : A41 → Option B41 := fun ⟨⟨a'_0, a'_1⟩, ⟨⟨b'_0, b'_1⟩, ()⟩⟩ => ((c44 ((a'_0, a'_1), ())).bind fun ⟨y0, ()⟩ => ((c44 ((b'_0, b'_1), ())).bind fun ⟨y1, ()⟩ => ((c49 (y0, (y1, ()))).bind fun ⟨y2, ()⟩ => ((c47 (y2, ())).bind fun ⟨⟨y3_0, y3_1⟩, ⟨y3_2, ()⟩⟩ => (some ((y3_0, y3_1), (y3_2, ())))))))
def N41 : A41 → Option B41 := M41 N44 N49 N47
def C41 : Ctr τ := ⟨i41, o41, N41⟩
theorem g41 : GOK κ Try.prog (G41 N44 N49 N47) := (gok_cons s44 (gok_cons s49 (gok_cons s47 gok_nil)))
theorem lall41 : ∀ Z : Zn, Z.rl = C41.o.keeps → Try.f41.ntmps ≤ Z.nt → ∀ p ∈ loops 0 (bodyOf Try.f41), ∀ C, (tabL []) p.1 = some C → LoopOK κ Try.prog Z p.2 C := fun Z h n => fun p hp => (by cases (show p ∈ ([] : List (Nat × Code)) from hp))
theorem e41 : ∀ (c44 : A44 → Option B44) (c49 : A49 → Option B49) (c47 : A47 → Option B47) x, M41 c44 c49 c47 x = fnE Try.prog κ (G41 c44 c49 c47) (tabL []) Try.f41 i41 o41 x := fun c44 c49 c47 x => by kernel_rfl
theorem s41 : Sound κ Try.prog C41 41 := fn_sound (S := (tabL [])) (F := Try.f41) (code := bodyOf Try.f41) (by kernel_rfl) g41 Try.func41 (by kernel_rfl) (by kernel_rfl) (by kernel_rfl) lall41 (by kernel_rfl) (by kernel_rfl) fun x y h => (e41 N44 N49 N47 x).symm.trans h
end Go.Proofs.Ytieeaicdpdidpaa.E
namespace Go.Proofs.Ytieeaicdpdidpaa.E
open Go
set_option linter.unusedVariables false
set_option maxRecDepth 100000
abbrev A17 : Type := ((Int × Int) × (Int × Int) × Int × Unit)
abbrev B17 : Type := ((Int × Int) × Int × Unit)
def i17 : Fr τ A17 := (.val 0 (.pair (.int .i64) (.int .u64)) (.val 1 (.pair (.int .i64) (.int .u64)) (.val 2 (.int .i64) .nil)))
def o17 : Fr τ B17 := (.val 1000 (.pair (.int .i64) (.int .u64)) (.val 1001 (.int .i64) .nil))
def G17 (c15 : A15 → Option B15) (c38 : A38 → Option B38) (c40 : A40 → Option B40) (c39 : A39 → Option B39) (c41 : A41 → Option B41) : Nat → Option (Ctr τ) := tabG [(15, (⟨i15, o15, c15⟩ : Ctr τ)), (38, (⟨i38, o38, c38⟩ : Ctr τ)), (40, (⟨i40, o40, c40⟩ : Ctr τ)), (39, (⟨i39, o39, c39⟩ : Ctr τ)), (41, (⟨i41, o41, c41⟩ : Ctr τ))]
def M17 (c15 : A15 → Option B15) (c38 : A38 → Option B38) (c40 : A40 → Option B40) (c39 : A39 → Option B39) (c41 : A41 → Option B41) : A17 → Option B17 := fun ⟨⟨a'_0, a'_1⟩, ⟨⟨b'_0, b'_1⟩, ⟨mode', ()⟩⟩⟩ => (bif decide (mode' < 0) then (some ((0, 0), (1, ()))) else (bif decide (mode' > 4) then (some ((0, 0), (1, ()))) else ((c15 ((a'_0, a'_1), ((b'_0, b'_1), ()))).bind fun ⟨⟨y2_0, y2_1⟩, ⟨⟨y2_2, y2_3⟩, ⟨y2_4, ()⟩⟩⟩ => (bif y2_4 != 0 then (some ((0, 0), (y2_4, ()))) else (bif y2_2 == 0 then (bif y2_3 == 0 then (some ((y2_0, y2_1), (0, ()))) else (bif mode' == 0 then (bif !!decide (a'_0 < 0) == decide (b'_0 < 0) then (some ((y2_0, y2_1), (0, ()))) else (bif !decide (a'_0 < 0) == decide (b'_0 < 0) then ((c40 (1, ())).bind fun ⟨⟨y9_0, y9_1⟩, ()⟩ => ((c39 ((y2_0, y2_1), ((y9_0, y9_1), ()))).bind fun ⟨⟨y10_0, y10_1⟩, ⟨y10_2, ()⟩⟩ => (some ((y10_0, y10_1), (y10_2, ()))))) else ((c40 (1, ())).bind fun ⟨⟨y9_0, y9_1⟩, ()⟩ => ((c41 ((y2_0, y2_1), ((y9_0, y9_1), ()))).bind fun ⟨⟨y10_0, y10_1⟩, ⟨y10_2, ()⟩⟩ => (some ((y10_0, y10_1), (y10_2, ()))))))) else (bif mode' == 1 then (bif !!!decide (a'_0 < 0) == decide (b'_0 < 0) then (some ((y2_0, y2_1), (0, ()))) else (bif !decide (a'_0 < 0) == decide (b'_0 < 0) then ((c40 (1, ())).bind fun ⟨⟨y10_0, y10_1⟩, ()⟩ => ((c39 ((y2_0, y2_1), ((y10_0, y10_1), ()))).bind fun ⟨⟨y11_0, y11_1⟩, ⟨y11_2, ()⟩⟩ => (some ((y11_0, y11_1), (y11_2, ()))))) else ((c40 (1, ())).bind fun ⟨⟨y10_0, y10_1⟩, ()⟩ => ((c41 ((y2_0, y2_1), ((y10_0, y10_1), ()))).bind fun ⟨⟨y11_0, y11_1⟩, ⟨y11_2, ()⟩⟩ => (some ((y11_0, y11_1), (y11_2, ()))))))) else (bif mode' == 3 then (bif mode' == 3 then ((c38 ((y2_0, y2_1), ((y2_2, y2_3), ((b'_0, b'_1), (mode', ()))))).bind fun ⟨y10, ()⟩ => (bif !y10 then (some ((y2_0, y2_1), (0, ()))) else (bif !decide (a'_0 < 0) == decide (b'_0 < 0) then ((c40 (1, ())).bind fun ⟨⟨y13_0, y13_1⟩, ()⟩ => ((c39 ((y2_0, y2_1), ((y13_0, y13_1), ()))).bind fun ⟨⟨y14_0, y14_1⟩, ⟨y14_2, ()⟩⟩ => (some ((y14_0, y14_1), (y14_2, ()))))) else ((c40 (1, ())).bind fun ⟨⟨y13_0, y13_1⟩, ()⟩ => ((c41 ((y2_0, y2_1), ((y13_0, y13_1), ()))).bind fun ⟨⟨y14_0, y14_1⟩, ⟨y14_2, ()⟩⟩ => (some ((y14_0, y14_1), (y14_2, ())))))))) else (some ((y2_0, y2_1), (0, ())))) else (bif mode' == 4 then ((c38 ((y2_0, y2_1), ((y2_2, y2_3), ((b'_0, b'_1), (mode', ()))))).bind fun ⟨y10, ()⟩ => (bif !y10 then (some ((y2_0, y2_1), (0, ()))) else (bif !decide (a'_0 < 0) == decide (b'_0 < 0) then ((c40 (1, ())).bind fun ⟨⟨y13_0, y13_1⟩, ()⟩ => ((c39 ((y2_0, y2_1), ((y13_0, y13_1), ()))).bind fun ⟨⟨y14_0, y14_1⟩, ⟨y14_2, ()⟩⟩ => (some ((y14_0, y14_1), (y14_2, ()))))) else ((c40 (1, ())).bind fun ⟨⟨y13_0, y13_1⟩, ()⟩ => ((c41 ((y2_0, y2_1), ((y13_0, y13_1), ()))).bind fun ⟨⟨y14_0, y14_1⟩, ⟨y14_2, ()⟩⟩ => (some ((y14_0, y14_1), (y14_2, ())))))))) else (some ((y2_0, y2_1), (0, ())))))))) else (bif mode' == 0 then (bif !!decide (a'_0 < 0) == decide (b'_0 < 0) then (some ((y2_0, y2_1), (0, ()))) else (bif !decide (a'_0 < 0) == decide (b'_0 < 0) then ((c40 (1, ())).bind fun ⟨⟨y8_0, y8_1⟩, ()⟩ => ((c39 ((y2_0, y2_1), ((y8_0, y8_1), ()))).bind fun ⟨⟨y9_0, y9_1⟩, ⟨y9_2, ()⟩⟩ => (some ((y9_0, y9_1), (y9_2, ()))))) else ((c40 (1, ())).bind fun ⟨⟨y8_0, y8_1⟩, ()⟩ => ((c41 ((y2_0, y2_1), ((y8_0, y8_1), ()))).bind fun ⟨⟨y9_0, y9_1⟩, ⟨y9_2, ()⟩⟩ => (some ((y9_0, y9_1), (y9_2, ()))))))) else (bif mode' == 1 then (bif !!!decide (a'_0 < 0) == decide (b'_0 < 0) then (some ((y2_0, y2_1), (0, ()))) else (bif !decide (a'_0 < 0) == decide (b'_0 < 0) then ((c40 (1, ())).bind fun ⟨⟨y9_0, y9_1⟩, ()⟩ => ((c39 ((y2_0, y2_1), ((y9_0, y9_1), ()))).bind fun ⟨⟨y10_0, y10_1⟩, ⟨y10_2, ()⟩⟩ => (some ((y10_0, y10_1), (y10_2, ()))))) else ((c40 (1, ())).bind fun ⟨⟨y9_0, y9_1⟩, ()⟩ => ((c41 ((y2_0, y2_1), ((y9_0, y9_1), ()))).bind fun ⟨⟨y10_0, y10_1⟩, ⟨y10_2, ()⟩⟩ => (some ((y10_0, y10_1), (y10_2, ()))))))) else (bif mode' == 3 then (bif mode' == 3 then ((c38 ((y2_0, y2_1), ((y2_2, y2_3), ((b'_0, b'_1), (mode', ()))))).bind fun ⟨y9, ()⟩ => (bif !y9 then (some ((y2_0, y2_1), (0, ()))) else (bif !decide (a'_0 < 0) == decide (b'_0 < 0) then ((c40 (1, ())).bind fun ⟨⟨y12_0, y12_1⟩, ()⟩ => ((c39 ((y2_0, y2_1), ((y12_0, y12_1), ()))).bind fun ⟨⟨y13_0, y13_1⟩, ⟨y13_2, ()⟩⟩ => (some ((y13_0, y13_1), (y13_2, ()))))) else ((c40 (1, ())).bind fun ⟨⟨y12_0, y12_1⟩, ()⟩ => ((c41 ((y2_0, y2_1), ((y12_0, y12_1), ()))).bind fun ⟨⟨y13_0, y13_1⟩, ⟨y13_2, ()⟩⟩ => (some ((y13_0, y13_1), (y13_2, ())))))))) else (some ((y2_0, y2_1), (0, ())))) else (bif mode' == 4 then ((c38 ((y2_0, y2_1), ((y2_2, y2_3), ((b'_0, b'_1), (mode', ()))))).bind fun ⟨y9, ()⟩ => (bif !y9 then (some ((y2_0, y2_1), (0, ()))) else (bif !decide (a'_0 < 0) == decide (b'_0 < 0) then ((c40 (1, ())).bind fun ⟨⟨y12_0, y12_1⟩, ()⟩ => ((c39 ((y2_0, y2_1), ((y12_0, y12_1), ()))).bind fun ⟨⟨y13_0, y13_1⟩, ⟨y13_2, ()⟩⟩ => (some ((y13_0, y13_1), (y13_2, ()))))) else ((c40 (1, ())).bind fun ⟨⟨y12_0, y12_1⟩, ()⟩ => ((c41 ((y2_0, y2_1), ((y12_0, y12_1), ()))).bind fun ⟨⟨y13_0, y13_1⟩, ⟨y13_2, ()⟩⟩ => (some ((y13_0, y13_1), (y13_2, ())))))))) else (some ((y2_0, y2_1), (0, ()))))))))))))
def N17 : A17 → Option B17 := M17 N15 N38 N40 N39 N41
def C17 : Ctr τ := ⟨i17, o17, N17⟩
theorem g17 : GOK κ Try.prog (G17 N15 N38 N40 N39 N41) := (gok_cons s15 (gok_cons s38 (gok_cons s40 (gok_cons s39 (gok_cons s41 gok_nil)))))
theorem lall17 : ∀ Z : Zn, Z.rl = C17.o.keeps → Try.f17.ntmps ≤ Z.nt → ∀ p ∈ loops 0 (bodyOf Try.f17), ∀ C, (tabL []) p.1 = some C → LoopOK κ Try.prog Z p.2 C := fun Z h n => fun p hp => (by cases (show p ∈ ([] : List (Nat × Code)) from hp))
theorem e17 : ∀ (c15 : A15 → Option B15) (c38 : A38 → Option B38) (c40 : A40 → Option B40) (c39 : A39 → Option B39) (c41 : A41 → Option B41) x, M17 c15 c38 c40 c39 c41 x = fnE Try.prog κ (G17 c15 c38 c40 c39 c41) (tabL []) Try.f17 i17 o17 x := fun c15 c38 c40 c39 c41 x => by kernel_rfl
theorem s17 : Sound κ Try.prog C17 17 := fn_sound (S := (tabL [])) (F := Try.f17) (code := bodyOf Try.f17) (by kernel_rfl) g17 Try.func17 (by kernel_rfl) (by kernel_rfl) (by kernel_rfl) lall17 (by kernel_rfl) (by kernel_rfl) fun x y h => (e17 N15 N38 N40 N39 N41 x).symm.trans h
end Go.Proofs.Ytieeaicdpdidpaa.E
namespace Go.Proofs.Ytieeaicdpdidpaa.E
open Go
set_option linter.unusedVariables false
set_option maxRecDepth 100000
abbrev A5 : Type := ((List T31) × Int × Unit)
abbrev B5 : Type := (Bool × Unit)
def i5 : Fr τ A5 := (.val 0 (.sl 31) (.val 1 (.int .i64) .nil))
def o5 : Fr τ B5 := (.val 1000 .bool .nil)
def G5 (c11 : A11 → Option B11) (c16 : A16 → Option B16) (c17 : A17 → Option B17) : Nat → Option (Ctr τ) := tabG [(11, (⟨i11, o11, c11⟩ : Ctr τ)), (16, (⟨i16, o16, c16⟩ : Ctr τ)), (17, (⟨i17, o17, c17⟩ : Ctr τ))]
abbrev LA5_2 : Type := ((List T31) × Int × Int × (Int × (Int × Unit)) × (Int × (Int × Unit)) × Int × Unit)
abbrev LB5_2 : Type := ((List T31) × Int × Int × Unit) ⊕ (Bool × Unit)
def li5_2 : Fr τ LA5_2 := (.val 0 (.sl 31) (.val 1 (.int .i64) (.val 5 (.int .i64) (.ptr 6 none 26 (.val (.int .i64) (.val (.int .u64) .nil)) (.ptr 8 none 26 (.val (.int .i64) (.val (.int .u64) .nil)) (.val 10 (.int .i64) .nil))))))
def lo5_2 : Ot τ LB5_2 := .alt (.exit 2) (.val 0 (.sl 31) (.val 1 (.int .i64) (.val 5 (.int .i64) .nil))) (.one .ret (.val 4 .bool .nil))
def Q5_2 (c11 : A11 → Option B11) (c16 : A16 → Option B16) (c17 : A17 → Option B17) : LA5_2 → Option (LA5_2 ⊕ LB5_2) := fun ⟨list', ⟨mode', ⟨i', ⟨⟨x'_0, ⟨x'_1, ()⟩⟩, ⟨⟨y'_0, ⟨y'_1, ()⟩⟩, ⟨m', ()⟩⟩⟩⟩⟩⟩ => (bif decide (m' < 5) then ((bif decide (0 ≤ i') then list'[Int.toNat i']? else none).bind fun ⟨⟨y1_0, y1_1⟩, ⟨y1_2, y1_3⟩⟩ => ((bif decide (0 ≤ i') then list'[Int.toNat i']? else none).bind fun ⟨⟨y2_0, y2_1⟩, ⟨y2_2, y2_3⟩⟩ => ((c16 ((y1_0, y1_1), ((y2_2, y2_3), (m', ())))).bind fun ⟨⟨y3_0, y3_1⟩, ⟨y3_2, ()⟩⟩ => ((bif decide (0 ≤ i') then list'[Int.toNat i']? else none).bind fun ⟨⟨y4_0, y4_1⟩, ⟨y4_2, y4_3⟩⟩ => ((bif decide (0 ≤ i') then list'[Int.toNat i']? else none).bind fun ⟨⟨y5_0, y5_1⟩, ⟨y5_2, y5_3⟩⟩ => ((c17 ((y4_0, y4_1), ((y5_2, y5_3), (m', ())))).bind fun ⟨⟨y6_0, y6_1⟩, ⟨y6_2, ()⟩⟩ => (bif !(y3_0 == y6_0 && y3_1 == y6_1) then (some (.inr (.inr (false, ())))) else (bif y3_2 != y6_2 then (some (.inr (.inr (false, ())))) else (let v0 : Int := m' + 1; let v1 : Int := IntKind.wrap IntKind.i64 v0; some (.inl (list', (mode', (i', ((y3_0, (y3_1, ())), ((y6_0, (y6_1, ())), (v1, ())))))))))))))))) else (some (.inr (.inl (list', (mode', (i', ())))))))
def R5_2 : LA5_2 → Option (LA5_2 ⊕ LB5_2) := Q5_2 N11 N16 N17
def L5_2 : Lc τ := ⟨li5_2, itrs R5_2, lo5_2⟩
abbrev LA5_0 : Type := ((List T31) × Int × Int × Unit)
abbrev LB5_0 : Type := (Unit) ⊕ (Bool × Unit)
def li5_0 : Fr τ LA5_0 := (.val 0 (.sl 31) (.val 1 (.int .i64) (.val 5 (.int .i64) .nil)))
def lo5_0 : Ot τ LB5_0 := .alt (.exit 0) .nil (.one .ret (.val 4 .bool .nil))
def Q5_0 (c11 : A11 → Option B11) (c16 : A16 → Option B16) (c17 : A17 → Option B17) (l5_2 : LA5_2 → Option LB5_2) : LA5_0 → Option (LA5_0 ⊕ LB5_0) := fun ⟨list', ⟨mode', ⟨i', ()⟩⟩⟩ => (let v0 : Int := ↑(List.length list'); bif decide (i' < v0) then ((bif decide (0 ≤ i') then list'[Int.toNat i']? else none).bind fun ⟨⟨y1_0, y1_1⟩, ⟨y1_2, y1_3⟩⟩ => ((bif decide (0 ≤ i') then list'[Int.toNat i']? else none).bind fun ⟨⟨y2_0, y2_1⟩, ⟨y2_2, y2_3⟩⟩ => ((c16 ((y1_0, y1_1), ((y2_2, y2_3), (mode', ())))).bind fun ⟨⟨y3_0, y3_1⟩, ⟨y3_2, ()⟩⟩ => ((bif decide (0 ≤ i') then list'[Int.toNat i']? else none).bind fun ⟨⟨y4_0, y4_1⟩, ⟨y4_2, y4_3⟩⟩ => ((bif decide (0 ≤ i') then list'[Int.toNat i']? else none).bind fun ⟨⟨y5_0, y5_1⟩, ⟨y5_2, y5_3⟩⟩ => ((c17 ((y4_0, y4_1), ((y5_2, y5_3), (mode', ())))).bind fun ⟨⟨y6_0, y6_1⟩, ⟨y6_2, ()⟩⟩ => (bif !(y3_0 == y6_0 && y3_1 == y6_1) then (some (.inr (.inr (false, ())))) else (bif y3_2 != y6_2 then (some (.inr (.inr (false, ())))) else ((l5_2 (list', (mode', (i', ((y3_0, (y3_1, ())), ((y6_0, (y6_1, ())), (0, ()))))))).bind fun y9 => (match y9 with | .inl ⟨y10_0, ⟨y10_1, ⟨y10_2, ()⟩⟩⟩ => (let v1 : Int := y10_2 + 1; let v2 : Int := IntKind.wrap IntKind.i64 v1; some (.inl (y10_0, (y10_1, (v2, ()))))) | .inr ⟨y10, ()⟩ => (some (.inr (.inr (y10, ())))))))))))))) else (some (.inr (.inl ()))))
def R5_0 : LA5_0 → Option (LA5_0 ⊕ LB5_0) := Q5_0 N11 N16 N17 (itrs R5_2)
def L5_0 : Lc τ := ⟨li5_0, itrs R5_0, lo5_0⟩
def M5 (c11 : A11 → Option B11) (c16 : A16 → Option B16) (c17 : A17 → Option B17) (l5_0 : LA5_0 → Option LB5_0) : A5 → Option B5 := fun ⟨list', ⟨mode', ()⟩⟩ => ((c11 ()).bind fun ⟨y0, ()⟩ => (bif !y0 then (some (false, ())) else ((l5_0 (list', (mode', (0, ())))).bind fun y2 => (match y2 with | .inl () => (some (true, ())) | .inr ⟨y3, ()⟩ => (some (y3, ()))))))
def N5 : A5 → Option B5 := M5 N11 N16 N17 (itrs R5_0)
def C5 : Ctr τ := ⟨i5, o5, N5⟩
theorem g5 : GOK κ Try.prog (G5 N11 N16 N17) := (gok_cons s11 (gok_cons s16 (gok_cons s17 gok_nil)))
theorem le5_2 : ∀ (c11 : A11 → Option B11) (c16 : A16 → Option B16) (c17 : A17 → Option B17) x, Q5_2 c11 c16 c17 x = run Try.prog κ (G5 c11 c16 c17) (tabL []) 2 (loopAt Try.f5 1) (li5_2.build x) (rnd li5_2 lo5_2) := fun c11 c16 c17 x => by kernel_rfl
theorem le5_0 : ∀ (c11 : A11 → Option B11) (c16 : A16 → Option B16) (c17 : A17 → Option B17) (l5_2 : LA5_2 → Option LB5_2) x, Q5_0 c11 c16 c17 l5_2 x = run Try.prog κ (G5 c11 c16 c17) (tabL [(2, (⟨li5_2, l5_2, lo5_2⟩ : Lc τ))]) 0 (loopAt Try.f5 0) (li5_0.build x) (rnd li5_0 lo5_0) := fun c11 c16 c17 l5_2 x => by kernel_rfl
theorem linner5_2 : ∀ Z : Zn, Z.rl = [] → 99 ≤ Z.nt → ∀ p ∈ loops 2 (loopAt Try.f5 1), ∀ C, (tabL []) p.1 = some C → LoopOK κ Try.prog Z p.2 C := fun Z h n => fun p hp => (by cases (show p ∈ ([] : List (Nat × Code)) from hp))
theorem lk5_2 : ∀ Z : Zn, Z.rl = [] → 99 ≤ Z.nt → LoopOK κ Try.prog Z (loopAt Try.f5 1) L5_2 := fun Z h n => loop_ok (S := (tabL [])) R5_2 (by kernel_rfl) g5 (by rw [h]; exact dsts_mono n _ (by kernel_rfl)) (linner5_2 Z h n) (by kernel_rfl) (by kernel_rfl) (le5_2 N11 N16 N17) itrs_rounds
theorem linner5_0 : ∀ Z : Zn, Z.rl = [] → 99 ≤ Z.nt → ∀ p ∈ loops 0 (loopAt Try.f5 0), ∀ C, (tabL [(2, L5_2)]) p.1 = some C → LoopOK κ Try.prog Z p.2 C := fun Z h n => all_loops [(2, loopAt Try.f5 1)] (by kernel_rfl) (all_cons (fun C hC => (Option.some.inj hC : L5_2 = C) ▸ lk5_2 Z h n) (fun _ h => by cases h))
theorem lk5_0 : ∀ Z : Zn, Z.rl = [] → 99 ≤ Z.nt → LoopOK κ Try.prog Z (loopAt Try.f5 0) L5_0 := fun Z h n => loop_ok (S := (tabL [(2, L5_2)])) R5_0 (by kernel_rfl) g5 (by rw [h]; exact dsts_mono n _ (by kernel_rfl)) (linner5_0 Z h n) (by kernel_rfl) (by kernel_rfl) (le5_0 N11 N16 N17 (itrs R5_2)) itrs_rounds
theorem lall5 : ∀ Z : Zn, Z.rl = C5.o.keeps → Try.f5.ntmps ≤ Z.nt → ∀ p ∈ loops 0 (bodyOf Try.f5), ∀ C, (tabL [(0, L5_0)]) p.1 = some C → LoopOK κ Try.prog Z p.2 C := fun Z h n => all_loops [(0, loopAt Try.f5 0), (2, loopAt Try.f5 1)] (by kernel_rfl) (all_cons (fun C hC => (Option.some.inj hC : L5_0 = C) ▸ lk5_0 Z h n) (all_cons (fun C hC => by cases hC) (fun _ h => by cases h)))
theorem e5 : ∀ (c11 : A11 → Option B11) (c16 : A16 → Option B16) (c17 : A17 → Option B17) (l5_0 : LA5_0 → Option LB5_0) x, M5 c11 c16 c17 l5_0 x = fnE Try.prog κ (G5 c11 c16 c17) (tabL [(0, (⟨li5_0, l5_0, lo5_0⟩ : Lc τ))]) Try.f5 i5 o5 x := fun c11 c16 c17 l5_0 x => by kernel_rfl
theorem s5 : Sound κ Try.prog C5 5 := fn_sound (S := (tabL [(0, L5_0)])) (F := Try.f5) (code := bodyOf Try.f5) (by kernel_rfl) g5 Try.func5 (by kernel_rfl) (by kernel_rfl) (by kernel_rfl) lall5 (by kernel_rfl) (by kernel_rfl) fun x y h => (e5 N11 N16 N17 (itrs R5_0) x).symm.trans h
end Go.Proofs.Ytieeaicdpdidpaa.E
namespace Go.Proofs.Ytieeaicdpdidpaa.E
open Go
set_option linter.unusedVariables false
set_option maxRecDepth 100000
abbrev A19 : Type := (Int × Unit)
abbrev B19 : Type := ((Int × Int) × Int × Unit)
def i19 : Fr τ A19 := (.val 0 (.int .i64) .nil)
def o19 : Fr τ B19 := (.val 1000 (.pair (.int .i64) (.int .u64)) (.val 1001 (.int .i64) .nil))
def G19 (c40 : A40 → Option B40) (c13 : A13 → Option B13) : Nat → Option (Ctr τ) := tabG [(40, (⟨i40, o40, c40⟩ : Ctr τ)), (13, (⟨i13, o13, c13⟩ : Ctr τ))]
abbrev LA19_0 : Type := (Int × (Int × (Int × Unit)) × (Int × (Int × Unit)) × Int × Unit)
abbrev LB19_0 : Type := ((Int × (Int × Unit)) × (Int × (Int × Unit)) × Unit)
def li19_0 : Fr τ LA19_0 := (.val 0 (.int .i64) (.ptr 2 none 26 (.val (.int .i64) (.val (.int .u64) .nil)) (.ptr 4 none 26 (.val (.int .i64) (.val (.int .u64) .nil)) (.val 5 (.int .i64) .nil))))
def lo19_0 : Ot τ LB19_0 := .one (.exit 0) (.ptr 2 none 26 (.val (.int .i64) (.val (.int .u64) .nil)) (.ptr 4 none 26 (.val (.int .i64) (.val (.int .u64) .nil)) .nil))
def Q19_0 (c40 : A40 → Option B40) (c13 : A13 → Option B13) : LA19_0 → Option (LA19_0 ⊕ LB19_0) := fun ⟨k', ⟨⟨t2'_0, ⟨t2'_1, ()⟩⟩, ⟨⟨p'_0, ⟨p'_1, ()⟩⟩, ⟨i', ()⟩⟩⟩⟩ => (bif decide (i' < k') then ((c40 (10000, ())).bind fun ⟨⟨y1_0, y1_1⟩, ()⟩ => ((c13 ((p'_0, p'_1), ((y1_0, y1_1), ()))).bind fun ⟨⟨y2_0, y2_1⟩, ⟨y2_2, ()⟩⟩ => (let v0 : Int := i' + 1; let v1 : Int := IntKind.wrap IntKind.i64 v0; some (.inl (k', ((t2'_0, (t2'_1, ())), ((y2_0, (y2_1, ())), (v1, ())))))))) else (some (.inr ((t2'_0, (t2'_1, ())), ((p'_0, (p'_1, ())), ())))))
def R19_0 : LA19_0 → Option (LA19_0 ⊕ LB19_0) := Q19_0 N40 N13
def L19_0 : Lc τ := ⟨li19_0, itrs R19_0, lo19_0⟩
def M19 (c40 : A40 → Option B40) (c13 : A13 → Option B13) (l19_0 : LA19_0 → Option LB19_0) : A19 → Option B19 := fun ⟨k', ()⟩ => (bif decide (k' < 0) then (some ((0, 0), (1, ()))) else (bif decide (k' > 9) then (some ((0, 0), (10, ()))) else ((c40 (1, ())).bind fun ⟨⟨y2_0, y2_1⟩, ()⟩ => ((l19_0 (k', ((0, (0, ())), ((y2_0, (y2_1, ())), (0, ()))))).bind fun ⟨⟨y3_0, ⟨y3_1, ()⟩⟩, ⟨⟨y3_2, ⟨y3_3, ()⟩⟩, ()⟩⟩ => (some ((y3_2, y3_3), (0, ())))))))
def N19 : A19 → Option B19 := M19 N40 N13 (itrs R19_0)
def C19 : Ctr τ := ⟨i19, o19, N19⟩
theorem g19 : GOK κ Try.prog (G19 N40 N13) := (gok_cons s40 (gok_cons s13 gok_nil))
theorem le19_0 : ∀ (c40 : A40 → Option B40) (c13 : A13 → Option B13) x, Q19_0 c40 c13 x = run Try.prog κ (G19 c40 c13) (tabL []) 0 (loopAt Try.f19 0) (li19_0.build x) (rnd li19_0 lo19_0) := fun c40 c13 x => by kernel_rfl
theorem linner19_0 : ∀ Z : Zn, Z.rl = [] → 25 ≤ Z.nt → ∀ p ∈ loops 0 (loopAt Try.f19 0), ∀ C, (tabL []) p.1 = some C → LoopOK κ Try.prog Z p.2 C := fun Z h n => fun p hp => (by cases (show p ∈ ([] : List (Nat × Code)) from hp))
theorem lk19_0 : ∀ Z : Zn, Z.rl = [] → 25 ≤ Z.nt → LoopOK κ Try.prog Z (loopAt Try.f19 0) L19_0 := fun Z h n => loop_ok (S := (tabL [])) R19_0 (by kernel_rfl) g19 (by rw [h]; exact dsts_mono n _ (by kernel_rfl)) (linner19_0 Z h n) (by kernel_rfl) (by kernel_rfl) (le19_0 N40 N13) itrs_rounds
theorem lall19 : ∀ Z : Zn, Z.rl = C19.o.keeps → Try.f19.ntmps ≤ Z.nt → ∀ p ∈ loops 0 (bodyOf Try.f19), ∀ C, (tabL [(0, L19_0)]) p.1 = some C → LoopOK κ Try.prog Z p.2 C := fun Z h n => all_loops [(0, loopAt Try.f19 0)] (by kernel_rfl) (all_cons (fun C hC => (Option.some.inj hC : L19_0 = C) ▸ lk19_0 Z h n) (fun _ h => by cases h))
theorem e19 : ∀ (c40 : A40 → Option B40) (c13 : A13 → Option B13) (l19_0 : LA19_0 → Option LB19_0) x, M19 c40 c13 l19_0 x = fnE Try.prog κ (G19 c40 c13) (tabL [(0, (⟨li19_0, l19_0, lo19_0⟩ : Lc τ))]) Try.f19 i19 o19 x := fun c40 c13 l19_0 x => by kernel_rfl
theorem s19 : Sound κ Try.prog C19 19 := fn_sound (S := (tabL [(0, L19_0)])) (F := Try.f19) (code := bodyOf Try.f19) (by kernel_rfl) g19 Try.func19 (by kernel_rfl) (by kernel_rfl) (by kernel_rfl) lall19 (by kernel_rfl) (by kernel_rfl) fun x y h => (e19 N40 N13 (itrs R19_0) x).symm.trans h
end Go.Proofs.Ytieeaicdpdidpaa.E
namespace Go.Proofs.Ytieeaicdpdidpaa.E
open Go
set_option linter.unusedVariables false
set_option maxRecDepth 100000
abbrev A6 : Type := (Int × Unit)
abbrev B6 : Type := (Bool × Unit)
def i6 : Fr τ A6 := (.val 0 (.int .i64) .nil)
def o6 : Fr τ B6 := (.val 1000 .bool .nil)
def G6 (c11 : A11 → Option B11) (c18 : A18 → Option B18) (c19 : A19 → Option B19) : Nat → Option (Ctr τ) := tabG [(11, (⟨i11, o11, c11⟩ : Ctr τ)), (18, (⟨i18, o18, c18⟩ : Ctr τ)), (19, (⟨i19, o19, c19⟩ : Ctr τ))]
def M6 (c11 : A11 → Option B11) (c18 : A18 → Option B18) (c19 : A19 → Option B19) : A6 → Option B6 := fun ⟨k', ()⟩ => ((c11 ()).bind fun ⟨y0, ()⟩ => (bif !y0 then (some (false, ())) else ((c18 (k', ())).bind fun ⟨⟨y2_0, y2_1⟩, ⟨y2_2, ()⟩⟩ => ((c19 (k', ())).bind fun ⟨⟨y3_0, y3_1⟩, ⟨y3_2, ()⟩⟩ => (bif y2_0 == y3_0 && y2_1 == y3_1 then (some (y2_2 == y3_2, ())) else (some (false, ())))))))
def N6 : A6 → Option B6 := M6 N11 N18 N19
def C6 : Ctr τ := ⟨i6, o6, N6⟩
theorem g6 : GOK κ Try.prog (G6 N11 N18 N19) := (gok_cons s11 (gok_cons s18 (gok_cons s19 gok_nil)))
theorem lall6 : ∀ Z : Zn, Z.rl = C6.o.keeps → Try.f6.ntmps ≤ Z.nt → ∀ p ∈ loops 0 (bodyOf Try.f6), ∀ C, (tabL []) p.1 = some C → LoopOK κ Try.prog Z p.2 C := fun Z h n => fun p hp => (by cases (show p ∈ ([] : List (Nat × Code)) from hp))
theorem e6 : ∀ (c11 : A11 → Option B11) (c18 : A18 → Option B18) (c19 : A19 → Option B19) x, M6 c11 c18 c19 x = fnE Try.prog κ (G6 c11 c18 c19) (tabL []) Try.f6 i6 o6 x := fun c11 c18 c19 x => by kernel_rfl
theorem s6 : Sound κ Try.prog C6 6 := fn_sound (S := (tabL [])) (F := Try.f6) (code := bodyOf Try.f6) (by kernel_rfl) g6 Try.func6 (by kernel_rfl) (by kernel_rfl) (by kernel_rfl) lall6 (by kernel_rfl) (by kernel_rfl) fun x y h => (e6 N11 N18 N19 x).symm.trans h
end Go.Proofs.Ytieeaicdpdidpaa.E
namespace Go.Proofs.Ytieeaicdpdidpaa.E
open Go
set_option linter.unusedVariables false
set_option maxRecDepth 100000
abbrev A7 : Type := ((Int × Int) × (Int × Int) × (Int × Int) × Unit)
abbrev B7 : Type := (Bool × Unit)
def i7 : Fr τ A7 := (.val 0 (.pair (.int .i64) (.int .u64)) (.val 1 (.pair (.int .i64) (.int .u64)) (.val 2 (.pair (.int .i64) (.int .u64)) .nil)))
def o7 : Fr τ B7 := (.val 1000 .bool .nil)
def G7 (c11 : A11 → Option B11) (c12 : A12 → Option B12) (c20 : A20 → Option B20) (c21 : A21 → Option B21) : Nat → Option (Ctr τ) := tabG [(11, (⟨i11, o11, c11⟩ : Ctr τ)), (12, (⟨i12, o12, c12⟩ : Ctr τ)), (20, (⟨i20, o20, c20⟩ : Ctr τ)), (21, (⟨i21, o21, c21⟩ : Ctr τ))]
def M7 (c11 : A11 → Option B11) (c12 : A12 → Option B12) (c20 : A20 → Option B20) (c21 : A21 → Option B21) : A7 → Option B7 := fun ⟨⟨a'_0, a'_1⟩, ⟨⟨b'_0, b'_1⟩, ⟨⟨c'_0, c'_1⟩, ()⟩⟩⟩ => ((c11 ()).bind fun ⟨y0, ()⟩ => (bif !y0 then (some (false, ())) else ((c12 ((a'_0, a'_1), ((b'_0, b'_1), ()))).bind fun ⟨⟨y2_0, y2_1⟩, ⟨y2_2, ()⟩⟩ => ((c12 ((b'_0, b'_1), ((a'_0, a'_1), ()))).bind fun ⟨⟨y3_0, y3_1⟩, ⟨y3_2, ()⟩⟩ => ((c12 ((a'_0, a'_1), ((0, 0), ()))).bind fun ⟨⟨y4_0, y4_1⟩, ⟨y4_2, ()⟩⟩ => ((c20 (1, ())).bind fun ⟨⟨y5_0, y5_1⟩, ()⟩ => ((c12 ((a'_0, a'_1), ((y5_0, y5_1), ()))).bind fun ⟨⟨y6_0, y6_1⟩, ⟨y6_2, ()⟩⟩ => (bif !(y2_0 == y3_0 && y2_1 == y3_1) then (some (false, ())) else (bif y2_2 != y3_2 then (some (false, ())) else (bif !(y4_0 == 0 && y4_1 == 0) then (some (false, ())) else (bif y4_2 != 0 then (some (false, ())) else (bif !(y6_0 == a'_0 && y6_1 == a'_1) then (some (false, ())) else (bif y6_2 != 0 then (some (false, ())) else ((c12 ((a'_0, a'_1), ((c'_0, c'_1), ()))).bind fun ⟨⟨y13_0, y13_1⟩, ⟨y13_2, ()⟩⟩ => ((c21 ((b'_0, b'_1), ((c'_0, c'_1), ()))).bind fun ⟨⟨y14_0, y14_1⟩, ⟨y14_2, ()⟩⟩ => (bif y2_2 != 0 then (some (true, ())) else (bif y13_2 != 0 then (some (true, ())) else (bif y14_2 != 0 then (some (true, ())) else ((c12 ((a'_0, a'_1), ((y14_0, y14_1), ()))).bind fun ⟨⟨y18_0, y18_1⟩, ⟨y18_2, ()⟩⟩ => ((c21 ((y2_0, y2_1), ((y13_0, y13_1), ()))).bind fun ⟨⟨y19_0, y19_1⟩, ⟨y19_2, ()⟩⟩ => (bif y18_2 == y19_2 then (some (y18_0 == y19_0 && y18_1 == y19_1, ())) else (some (false, ())))))))))))))))))))))))
def N7 : A7 → Option B7 := M7 N11 N12 N20 N21
def C7 : Ctr τ := ⟨i7, o7, N7⟩
theorem g7 : GOK κ Try.prog (G7 N11 N12 N20 N21) := (gok_cons s11 (gok_cons s12 (gok_cons s20 (gok_cons s21 gok_nil))))
theorem lall7 : ∀ Z : Zn, Z.rl = C7.o.keeps → Try.f7.ntmps ≤ Z.nt → ∀ p ∈ loops 0 (bodyOf Try.f7), ∀ C, (tabL []) p.1 = some C → LoopOK κ Try.prog Z p.2 C := fun Z h n => fun p hp => (by cases (show p ∈ ([] : List (Nat × Code)) from hp))
theorem e7 : ∀ (c11 : A11 → Option B11) (c12 : A12 → Option B12) (c20 : A20 → Option B20) (c21 : A21 → Option B21) x, M7 c11 c12 c20 c21 x = fnE Try.prog κ (G7 c11 c12 c20 c21) (tabL []) Try.f7 i7 o7 x := fun c11 c12 c20 c21 x => by kernel_rfl
theorem s7 : Sound κ Try.prog C7 7 := fn_sound (S := (tabL [])) (F := Try.f7) (code := bodyOf Try.f7) (by kernel_rfl) g7 Try.func7 (by kernel_rfl) (by kernel_rfl) (by kernel_rfl) lall7 (by kernel_rfl) (by kernel_rfl) fun x y h => (e7 N11 N12 N20 N21 x).symm.trans h
end Go.Proofs.Ytieeaicdpdidpaa.E
namespace Go.Proofs.Ytieeaicdpdidpaa.E
open Go
set_option linter.unusedVariables false
set_option maxRecDepth 100000
abbrev A22 : Type := ((Int × Int) × Unit)
abbrev B22 : Type := (Int × Unit)
def i22 : Fr τ A22 := (.val 0 (.pair (.int .i64) (.int .u64)) .nil)
def o22 : Fr τ B22 := (.val 1000 (.int .i64) .nil)
def G22 : Nat → Option (Ctr τ) := tabG []
def M22 : A22 → Option B22 := fun ⟨⟨w'_0, w'_1⟩, ()⟩ => (bif decide (w'_0 < 0) then (some (-1, ())) else (bif w'_0 == 0 && w'_1 == 0 then (some (0, ())) else (some (1, ()))))
def N22 : A22 → Option B22 := M22
def C22 : Ctr τ := ⟨i22, o22, N22⟩
theorem g22 : GOK κ Try.prog (G22) := gok_nil
theorem lall22 : ∀ Z : Zn, Z.rl = C22.o.keeps → Try.f22.ntmps ≤ Z.nt → ∀ p ∈ loops 0 (bodyOf Try.f22), ∀ C, (tabL []) p.1 = some C → LoopOK κ Try.prog Z p.2 C := fun Z h n => fun p hp => (by cases (show p ∈ ([] : List (Nat × Code)) from hp))
theorem e22 : ∀ x, M22 x = fnE Try.prog κ (G22) (tabL []) Try.f22 i22 o22 x := fun x => by kernel_rfl
theorem s22 : Sound κ Try.prog C22 22 := fn_sound (S := (tabL [])) (F := Try.f22) (code := bodyOf Try.f22) (by kernel_rfl) g22 Try.func22 (by kernel_rfl) (by kernel_rfl) (by kernel_rfl) lall22 (by kernel_rfl) (by kernel_rfl) fun x y h => (e22 x).symm.trans h
end Go.Proofs.Ytieeaicdpdidpaa.E
namespace Go.Proofs.Ytieeaicdpdidpaa.E
open Go
set_option linter.unusedVariables false
set_option maxRecDepth 100000
abbrev A23 : Type := ((Int × Int) × (Int × Int) × Unit)
abbrev B23 : Type := (Bool × Unit)
def i23 : Fr τ A23 := (.val 0 (.pair (.int .i64) (.int .u64)) (.val 1 (.pair (.int .i64) (.int .u64)) .nil))
def o23 : Fr τ B23 := (.val 1000 .bool .nil)
def G23 (c25 : A25 → Option B25) : Nat → Option (Ctr τ) := tabG [(25, (⟨i25, o25, c25⟩ : Ctr τ))]
def M23 (c25 : A25 → Option B25) : A23 → Option B23 := fun ⟨⟨a'_0, a'_1⟩, ⟨⟨b'_0, b'_1⟩, ()⟩⟩ => ((c25 ((a'_0, a'_1), ())).bind fun ⟨y0_0, ⟨y0_1, ()⟩⟩ => ((c25 ((b'_0, b'_1), ())).bind fun ⟨y1_0, ⟨y1_1, ()⟩⟩ => (bif decide (y0_0 < y1_0) then (some (true, ())) else (bif y0_0 == y1_0 then (some (decide (y0_1 < y1_1), ())) else (some (false, ()))))))
def N23 : A23 → Option B23 := M23 N25
def C23 : Ctr τ := ⟨i23, o23, N23⟩
theorem g23 : GOK κ Try.prog (G23 N25) := (gok_cons s25 gok_nil)
theorem lall23 : ∀ Z : Zn, Z.rl = C23.o.keeps → Try.f23.ntmps ≤ Z.nt → ∀ p ∈ loops 0 (bodyOf Try.f23), ∀ C, (tabL []) p.1 = some C → LoopOK κ Try.prog Z p.2 C := fun Z h n => fun p hp => (by cases (show p ∈ ([] : List (Nat × Code)) from hp))
theorem e23 : ∀ (c25 : A25 → Option B25) x, M23 c25 x = fnE Try.prog κ (G23 c25) (tabL []) Try.f23 i23 o23 x := fun c25 x => by kernel_rfl
theorem s23 : Sound κ Try.prog C23 23 := fn_sound (S := (tabL [])) (F := Try.f23) (code := bodyOf Try.f23) (by kernel_rfl) g23 Try.func23 (by kernel_rfl) (by kernel_rfl) (by kernel_rfl) lall23 (by kernel_rfl) (by kernel_rfl) fun x y h => (e23 N25 x).symm.trans h
end Go.Proofs.Ytieeaicdpdidpaa.E
namespace Go.Proofs.Ytieeaicdpdidpaa.E
open Go
set_option linter.unusedVariables false
set_option maxRecDepth 100000
abbrev A9 : Type := ((Int × Int) × (Int × Int) × Unit)
abbrev B9 : Type := (Bool × Unit)
def i9 : Fr τ A9 := (.val 0 (.pair (.int .i64) (.int .u64)) (.val 1 (.pair (.int .i64) (.int .u64)) .nil))
def o9 : Fr τ B9 := (.val 1000 .bool .nil)
def G9 (c11 : A11 → Option B11) (c16 : A16 → Option B16) (c22 : A22 → Option B22) (c20 : A20 → Option B20) (c24 : A24 → Option B24) (c14 : A14 → Option B14) (c21 : A21 → Option B21) (c23 : A23 → Option B23) : Nat → Option (Ctr τ) := tabG [(11, (⟨i11, o11, c11⟩ : Ctr τ)), (16, (⟨i16, o16, c16⟩ : Ctr τ)), (22, (⟨i22, o22, c22⟩ : Ctr τ)), (20, (⟨i20, o20, c20⟩ : Ctr τ)), (24, (⟨i24, o24, c24⟩ : Ctr τ)), (14, (⟨i14, o14, c14⟩ : Ctr τ)), (21, (⟨i21, o21, c21⟩ : Ctr τ)), (23, (⟨i23, o23, c23⟩ : Ctr τ))]
def M9 (c11 : A11 → Option B11) (c16 : A16 → Option B16) (c22 : A22 → Option B22) (c20 : A20 → Option B20) (c24 : A24 → Option B24) (c14 : A14 → Option B14) (c21 : A21 → Option B21) (c23 : A23 → Option B23) : A9 → Option B9 := fun ⟨⟨a'_0, a'_1⟩, ⟨⟨b'_0, b'_1⟩, ()⟩⟩ => ((c11 ()).bind fun ⟨y0, ()⟩ => (bif !y0 then (some (false, ())) else ((c16 ((a'_0, a'_1), ((b'_0, b'_1), (0, ())))).bind fun ⟨⟨y2_0, y2_1⟩, ⟨y2_2, ()⟩⟩ => (bif y2_2 != 0 then ((c22 ((b'_0, b'_1), ())).bind fun ⟨y4, ()⟩ => (bif y4 == 0 then (bif y2_2 == 20 then (some (true, ())) else (bif y2_2 == 10 then ((c20 (-1, ())).bind fun ⟨⟨y8_0, y8_1⟩, ()⟩ => (some (b'_0 == y8_0 && b'_1 == y8_1, ()))) else (some (false, ())))) else (bif y2_2 == 10 then ((c20 (-1, ())).bind fun ⟨⟨y7_0, y7_1⟩, ()⟩ => (some (b'_0 == y7_0 && b'_1 == y7_1, ()))) else (some (false, ()))))) else ((c16 ((a'_0, a'_1), ((b'_0, b'_1), (1, ())))).bind fun ⟨⟨y4_0, y4_1⟩, ⟨y4_2, ()⟩⟩ => (bif y4_2 != 0 then ((c22 ((b'_0, b'_1), ())).bind fun ⟨y6, ()⟩ => (bif y6 == 0 then (bif y4_2 == 20 then (some (true, ())) else (bif y4_2 == 10 then ((c20 (-1, ())).bind fun ⟨⟨y10_0, y10_1⟩, ()⟩ => (some (b'_0 == y10_0 && b'_1 == y10_1, ()))) else (some (false, ())))) else (bif y4_2 == 10 then ((c20 (-1, ())).bind fun ⟨⟨y9_0, y9_1⟩, ()⟩ => (some (b'_0 == y9_0 && b'_1 == y9_1, ()))) else (some (false, ()))))) else ((c16 ((a'_0, a'_1), ((b'_0, b'_1), (2, ())))).bind fun ⟨⟨y6_0, y6_1⟩, ⟨y6_2, ()⟩⟩ => (bif y6_2 != 0 then ((c22 ((b'_0, b'_1), ())).bind fun ⟨y8, ()⟩ => (bif y8 == 0 then (bif y6_2 == 20 then (some (true, ())) else (bif y6_2 == 10 then ((c20 (-1, ())).bind fun ⟨⟨y12_0, y12_1⟩, ()⟩ => (some (b'_0 == y12_0 && b'_1 == y12_1, ()))) else (some (false, ())))) else (bif y6_2 == 10 then ((c20 (-1, ())).bind fun ⟨⟨y11_0, y11_1⟩, ()⟩ => (some (b'_0 == y11_0 && b'_1 == y11_1, ()))) else (some (false, ()))))) else ((c16 ((a'_0, a'_1), ((b'_0, b'_1), (3, ())))).bind fun ⟨⟨y8_0, y8_1⟩, ⟨y8_2, ()⟩⟩ => (bif y8_2 != 0 then ((c22 ((b'_0, b'_1), ())).bind fun ⟨y10, ()⟩ => (bif y10 == 0 then (bif y8_2 == 20 then (some (true, ())) else (bif y8_2 == 10 then ((c20 (-1, ())).bind fun ⟨⟨y14_0, y14_1⟩, ()⟩ => (some (b'_0 == y14_0 && b'_1 == y14_1, ()))) else (some (false, ())))) else (bif y8_2 == 10 then ((c20 (-1, ())).bind fun ⟨⟨y13_0, y13_1⟩, ()⟩ => (some (b'_0 == y13_0 && b'_1 == y13_1, ()))) else (some (false, ()))))) else ((c16 ((a'_0, a'_1), ((b'_0, b'_1), (4, ())))).bind fun ⟨⟨y10_0, y10_1⟩, ⟨y10_2, ()⟩⟩ => (bif y10_2 != 0 then ((c22 ((b'_0, b'_1), ())).bind fun ⟨y12, ()⟩ => (bif y12 == 0 then (bif y10_2 == 20 then (some (true, ())) else (bif y10_2 == 10 then ((c20 (-1, ())).bind fun ⟨⟨y16_0, y16_1⟩, ()⟩ => (some (b'_0 == y16_0 && b'_1 == y16_1, ()))) else (some (false, ())))) else (bif y10_2 == 10 then ((c20 (-1, ())).bind fun ⟨⟨y15_0, y15_1⟩, ()⟩ => (some (b'_0 == y15_0 && b'_1 == y15_1, ()))) else (some (false, ()))))) else ((c24 ((y4_0, y4_1), ((y2_0, y2_1), ()))).bind fun ⟨⟨y12_0, y12_1⟩, ⟨y12_2, ()⟩⟩ => ((c14 ((a'_0, a'_1), ((b'_0, b'_1), ()))).bind fun ⟨⟨y13_0, y13_1⟩, ⟨⟨y13_2, y13_3⟩, ⟨y13_4, ()⟩⟩⟩ => (bif y12_2 != 0 then (some (false, ())) else (bif y13_4 != 0 then (some (false, ())) else (bif !(y6_0 == y13_0 && y6_1 == y13_1) then (some (false, ())) else ((c20 (0, ())).bind fun ⟨⟨y17_0, y17_1⟩, ()⟩ => (bif !(y12_0 == y17_0 && y12_1 == y17_1) then ((c20 (1, ())).bind fun ⟨⟨y19_0, y19_1⟩, ()⟩ => (bif !(y12_0 == y19_0 && y12_1 == y19_1) then (some (false, ())) else ((c20 (0, ())).bind fun ⟨⟨y21_0, y21_1⟩, ()⟩ => ((c22 ((y13_2, y13_3), ())).bind fun ⟨y22, ()⟩ => (bif !(y12_0 == y21_0 && y12_1 == y21_1) == (y22 == 0) then (some (false, ())) else ((c22 ((y13_2, y13_3), ())).bind fun ⟨y24, ()⟩ => (bif y24 == 0 then (bif y2_0 == y13_0 && y2_1 == y13_1 then (bif y8_0 == y13_0 && y8_1 == y13_1 then (some (y10_0 == y13_0 && y10_1 == y13_1, ())) else (some (false, ()))) else (some (false, ()))) else (bif y2_0 == y13_0 && y2_1 == y13_1 then ((c24 ((b'_0, b'_1), ((y13_2, y13_3), ()))).bind fun ⟨⟨y27_0, y27_1⟩, ⟨y27_2, ()⟩⟩ => ((c22 ((b'_0, b'_1), ())).bind fun ⟨y28, ()⟩ => ((c22 ((y13_2, y13_3), ())).bind fun ⟨y29, ()⟩ => (bif !decide (y28 < 0) == decide (y29 < 0) then ((c21 ((b'_0, b'_1), ((y13_2, y13_3), ()))).bind fun ⟨⟨y31_0, y31_1⟩, ⟨y31_2, ()⟩⟩ => (bif y31_2 != 0 then (some (false, ())) else (bif !(y8_0 == y13_0 && y8_1 == y13_1) then (bif !(y8_0 == y4_0 && y8_1 == y4_1) then (some (false, ())) else (bif !(y10_0 == y13_0 && y10_1 == y13_1) then (bif !(y10_0 == y4_0 && y10_1 == y4_1) then (some (false, ())) else ((c23 ((y13_2, y13_3), ((y31_0, y31_1), ()))).bind fun ⟨y37, ()⟩ => (bif y37 then ((c23 ((y31_0, y31_1), ((y13_2, y13_3), ()))).bind fun ⟨y39, ()⟩ => (bif (y8_0 == y4_0 && y8_1 == y4_1) == y39 then (some (y10_0 == y8_0 && y10_1 == y8_1, ())) else (some (false, ())))) else ((c23 ((y31_0, y31_1), ((y13_2, y13_3), ()))).bind fun ⟨y39, ()⟩ => (bif y39 then ((c23 ((y31_0, y31_1), ((y13_2, y13_3), ()))).bind fun ⟨y41, ()⟩ => (bif (y8_0 == y4_0 && y8_1 == y4_1) == y41 then (some (y10_0 == y8_0 && y10_1 == y8_1, ())) else (some (false, ())))) else (bif y8_0 == y4_0 && y8_1 == y4_1 then (let v0 : Int := Int.tmod y10_1 2; some (v0 == 0, ())) else (some (false, ())))))))) else ((c23 ((y13_2, y13_3), ((y31_0, y31_1), ()))).bind fun ⟨y36, ()⟩ => (bif y36 then ((c23 ((y31_0, y31_1), ((y13_2, y13_3), ()))).bind fun ⟨y38, ()⟩ => (bif (y8_0 == y4_0 && y8_1 == y4_1) == y38 then (some (y10_0 == y8_0 && y10_1 == y8_1, ())) else (some (false, ())))) else ((c23 ((y31_0, y31_1), ((y13_2, y13_3), ()))).bind fun ⟨y38, ()⟩ => (bif y38 then ((c23 ((y31_0, y31_1), ((y13_2, y13_3), ()))).bind fun ⟨y40, ()⟩ => (bif (y8_0 == y4_0 && y8_1 == y4_1) == y40 then (some (y10_0 == y8_0 && y10_1 == y8_1, ())) else (some (false, ())))) else (bif y8_0 == y4_0 && y8_1 == y4_1 then (let v0 : Int := Int.tmod y10_1 2; some (v0 == 0, ())) else (some (false, ()))))))))) else (bif !(y10_0 == y13_0 && y10_1 == y13_1) then (bif !(y10_0 == y4_0 && y10_1 == y4_1) then (some (false, ())) else ((c23 ((y13_2, y13_3), ((y31_0, y31_1), ()))).bind fun ⟨y36, ()⟩ => (bif y36 then ((c23 ((y31_0, y31_1), ((y13_2, y13_3), ()))).bind fun ⟨y38, ()⟩ => (bif (y8_0 == y4_0 && y8_1 == y4_1) == y38 then (some (y10_0 == y8_0 && y10_1 == y8_1, ())) else (some (false, ())))) else ((c23 ((y31_0, y31_1), ((y13_2, y13_3), ()))).bind fun ⟨y38, ()⟩ => (bif y38 then ((c23 ((y31_0, y31_1), ((y13_2, y13_3), ()))).bind fun ⟨y40, ()⟩ => (bif (y8_0 == y4_0 && y8_1 == y4_1) == y40 then (some (y10_0 == y8_0 && y10_1 == y8_1, ())) else (some (false, ())))) else (bif y8_0 == y4_0 && y8_1 == y4_1 then (let v0 : Int := Int.tmod y10_1 2; some (v0 == 0, ())) else (some (false, ())))))))) else ((c23 ((y13_2, y13_3), ((y31_0, y31_1), ()))).bind fun ⟨y35, ()⟩ => (bif y35 then ((c23 ((y31_0, y31_1), ((y13_2, y13_3), ()))).bind fun ⟨y37, ()⟩ => (bif (y8_0 == y4_0 && y8_1 == y4_1) == y37 then (some (y10_0 == y8_0 && y10_1 == y8_1, ())) else (some (false, ())))) else ((c23 ((y31_0, y31_1), ((y13_2, y13_3), ()))).bind fun ⟨y37, ()⟩ => (bif y37 then ((c23 ((y31_0, y31_1), ((y13_2, y13_3), ()))).bind fun ⟨y39, ()⟩ => (bif (y8_0 == y4_0 && y8_1 == y4_1) == y39 then (some (y10_0 == y8_0 && y10_1 == y8_1, ())) else (some (false, ())))) else (bif y8_0 == y4_0 && y8_1 == y4_1 then (let v0 : Int := Int.tmod y10_1 2; some (v0 == 0, ())) else (some (false, ()))))))))))) else (bif y27_2 != 0 then (some (false, ())) else (bif !(y8_0 == y13_0 && y8_1 == y13_1) then (bif !(y8_0 == y4_0 && y8_1 == y4_1) then (some (false, ())) else (bif !(y10_0 == y13_0 && y10_1 == y13_1) then (bif !(y10_0 == y4_0 && y10_1 == y4_1) then (some (false, ())) else ((c23 ((y13_2, y13_3), ((y27_0, y27_1), ()))).bind fun ⟨y36, ()⟩ => (bif y36 then ((c23 ((y27_0, y27_1), ((y13_2, y13_3), ()))).bind fun ⟨y38, ()⟩ => (bif (y8_0 == y4_0 && y8_1 == y4_1) == y38 then (some (y10_0 == y8_0 && y10_1 == y8_1, ())) else (some (false, ())))) else ((c23 ((y27_0, y27_1), ((y13_2, y13_3), ()))).bind fun ⟨y38, ()⟩ => (bif y38 then ((c23 ((y27_0, y27_1), ((y13_2, y13_3), ()))).bind fun ⟨y40, ()⟩ => (bif (y8_0 == y4_0 && y8_1 == y4_1) == y40 then (some (y10_0 == y8_0 && y10_1 == y8_1, ())) else (some (false, ())))) else (bif y8_0 == y4_0 && y8_1 == y4_1 then (let v0 : Int := Int.tmod y10_1 2; some (v0 == 0, ())) else (some (false, ())))))))) else ((c23 ((y13_2, y13_3), ((y27_0, y27_1), ()))).bind fun ⟨y35, ()⟩ => (bif y35 then ((c23 ((y27_0, y27_1), ((y13_2, y13_3), ()))).bind fun ⟨y37, ()⟩ => (bif (y8_0 == y4_0 && y8_1 == y4_1) == y37 then (some (y10_0 == y8_0 && y10_1 == y8_1, ())) else (some (false, ())))) else ((c23 ((y27_0, y27_1), ((y13_2, y13_3), ()))).bind fun ⟨y37, ()⟩ => (bif y37 then ((c23 ((y27_0, y27_1), ((y13_2, y13_3), ()))).bind fun ⟨y39, ()⟩ => (bif (y8_0 == y4_0 && y8_1 == y4_1) == y39 then (some (y10_0 == y8_0 && y10_1 == y8_1, ())) else (some (false, ())))) else (bif y8_0 == y4_0 && y8_1 == y4_1 then (let v0 : Int := Int.tmod y10_1 2; some (v0 == 0, ())) else (some (false, ()))))))))) else (bif !(y10_0 == y13_0 && y10_1 == y13_1) then (bif !(y10_0 == y4_0 && y10_1 == y4_1) then (some (false, ())) else ((c23 ((y13_2, y13_3), ((y27_0, y27_1), ()))).bind fun ⟨y35, ()⟩ => (bif y35 then ((c23 ((y27_0, y27_1), ((y13_2, y13_3), ()))).bind fun ⟨y37, ()⟩ => (bif (y8_0 == y4_0 && y8_1 == y4_1) == y37 then (some (y10_0 == y8_0 && y10_1 == y8_1, ())) else (some (false, ())))) else ((c23 ((y27_0, y27_1), ((y13_2, y13_3), ()))).bind fun ⟨y37, ()⟩ => (bif y37 then ((c23 ((y27_0, y27_1), ((y13_2, y13_3), ()))).bind fun ⟨y39, ()⟩ => (bif (y8_0 == y4_0 && y8_1 == y4_1) == y39 then (some (y10_0 == y8_0 && y10_1 == y8_1, ())) else (some (false, ())))) else (bif y8_0 == y4_0 && y8_1 == y4_1 then (let v0 : Int := Int.tmod y10_1 2; some (v0 == 0, ())) else (some (false, ())))))))) else ((c23 ((y13_2, y13_3), ((y27_0, y27_1), ()))).bind fun ⟨y34, ()⟩ => (bif y34 then ((c23 ((y27_0, y27_1), ((y13_2, y13_3), ()))).bind fun ⟨y36, ()⟩ => (bif (y8_0 == y4_0 && y8_1 == y4_1) == y36 then (some (y10_0 == y8_0 && y10_1 == y8_1, ())) else (some (false, ())))) else ((c23 ((y27_0, y27_1), ((y13_2, y13_3), ()))).bind fun ⟨y36, ()⟩ => (bif y36 then ((c23 ((y27_0, y27_1), ((y13_2, y13_3), ()))).bind fun ⟨y38, ()⟩ => (bif (y8_0 == y4_0 && y8_1 == y4_1) == y38 then (some (y10_0 == y8_0 && y10_1 == y8_1, ())) else (some (false, ())))) else (bif y8_0 == y4_0 && y8_1 == y4_1 then (let v0 : Int := Int.tmod y10_1 2; some (v0 == 0, ())) else (some (false, ())))))))))))))) else ((c24 ((b'_0, b'_1), ((y13_2, y13_3), ()))).bind fun ⟨⟨y27_0, y27_1⟩, ⟨y27_2, ()⟩⟩ => ((c22 ((b'_0, b'_1), ())).bind fun ⟨y28, ()⟩ => ((c22 ((y13_2, y13_3), ())).bind fun ⟨y29, ()⟩ => (bif !decide (y28 < 0) == decide (y29 < 0) then ((c21 ((b'_0, b'_1), ((y13_2, y13_3), ()))).bind fun ⟨⟨y31_0, y31_1⟩, ⟨y31_2, ()⟩⟩ => (bif y31_2 != 0 then (some (false, ())) else (bif !(y8_0 == y13_0 && y8_1 == y13_1) then (bif !(y8_0 == y2_0 && y8_1 == y2_1) then (some (false, ())) else (bif !(y10_0 == y13_0 && y10_1 == y13_1) then (bif !(y10_0 == y2_0 && y10_1 == y2_1) then (some (false, ())) else ((c23 ((y13_2, y13_3), ((y31_0, y31_1), ()))).bind fun ⟨y37, ()⟩ => (bif y37 then ((c23 ((y31_0, y31_1), ((y13_2, y13_3), ()))).bind fun ⟨y39, ()⟩ => (bif (y8_0 == y2_0 && y8_1 == y2_1) == y39 then (some (y10_0 == y8_0 && y10_1 == y8_1, ())) else (some (false, ())))) else ((c23 ((y31_0, y31_1), ((y13_2, y13_3), ()))).bind fun ⟨y39, ()⟩ => (bif y39 then ((c23 ((y31_0, y31_1), ((y13_2, y13_3), ()))).bind fun ⟨y41, ()⟩ => (bif (y8_0 == y2_0 && y8_1 == y2_1) == y41 then (some (y10_0 == y8_0 && y10_1 == y8_1, ())) else (some (false, ())))) else (bif y8_0 == y2_0 && y8_1 == y2_1 then (let v0 : Int := Int.tmod y10_1 2; some (v0 == 0, ())) else (some (false, ())))))))) else ((c23 ((y13_2, y13_3), ((y31_0, y31_1), ()))).bind fun ⟨y36, ()⟩ => (bif y36 then ((c23 ((y31_0, y31_1), ((y13_2, y13_3), ()))).bind fun ⟨y38, ()⟩ => (bif (y8_0 == y2_0 && y8_1 == y2_1) == y38 then (some (y10_0 == y8_0 && y10_1 == y8_1, ())) else (some (false, ())))) else ((c23 ((y31_0, y31_1), ((y13_2, y13_3), ()))).bind fun ⟨y38, ()⟩ => (bif y38 then ((c23 ((y31_0, y31_1), ((y13_2, y13_3), ()))).bind fun ⟨y40, ()⟩ => (bif (y8_0 == y2_0 && y8_1 == y2_1) == y40 then (some (y10_0 == y8_0 && y10_1 == y8_1, ())) else (some (false, ())))) else (bif y8_0 == y2_0 && y8_1 == y2_1 then (let v0 : Int := Int.tmod y10_1 2; some (v0 == 0, ())) else (some (false, ()))))))))) else (bif !(y10_0 == y13_0 && y10_1 == y13_1) then (bif !(y10_0 == y2_0 && y10_1 == y2_1) then (some (false, ())) else ((c23 ((y13_2, y13_3), ((y31_0, y31_1), ()))).bind fun ⟨y36, ()⟩ => (bif y36 then ((c23 ((y31_0, y31_1), ((y13_2, y13_3), ()))).bind fun ⟨y38, ()⟩ => (bif (y8_0 == y2_0 && y8_1 == y2_1) == y38 then (some (y10_0 == y8_0 && y10_1 == y8_1, ())) else (some (false, ())))) else ((c23 ((y31_0, y31_1), ((y13_2, y13_3), ()))).bind fun ⟨y38, ()⟩ => (bif y38 then ((c23 ((y31_0, y31_1), ((y13_2, y13_3), ()))).bind fun ⟨y40, ()⟩ => (bif (y8_0 == y2_0 && y8_1 == y2_1) == y40 then (some (y10_0 == y8_0 && y10_1 == y8_1, ())) else (some (false, ())))) else (bif y8_0 == y2_0 && y8_1 == y2_1 then (let v0 : Int := Int.tmod y10_1 2; some (v0 == 0, ())) else (some (false, ())))))))) else ((c23 ((y13_2, y13_3), ((y31_0, y31_1), ()))).bind fun ⟨y35, ()⟩ => (bif y35 then ((c23 ((y31_0, y31_1), ((y13_2, y13_3), ()))).bind fun ⟨y37, ()⟩ => (bif (y8_0 == y2_0 && y8_1 == y2_1) == y37 then (some (y10_0 == y8_0 && y10_1 == y8_1, ())) else (some (false, ())))) else ((c23 ((y31_0, y31_1), ((y13_2, y13_3), ()))).bind fun ⟨y37, ()⟩ => (bif y37 then ((c23 ((y31_0, y31_1), ((y13_2, y13_3), ()))).bind fun ⟨y39, ()⟩ => (bif (y8_0 == y2_0 && y8_1 == y2_1) == y39 then (some (y10_0 == y8_0 && y10_1 == y8_1, ())) else (some (false, ())))) else (bif y8_0 == y2_0 && y8_1 == y2_1 then (let v0 : Int := Int.tmod y10_1 2; some (v0 == 0, ())) else (some (false, ()))))))))))) else (bif y27_2 != 0 then (some (false, ())) else (bif !(y8_0 == y13_0 && y8_1 == y13_1) then (bif !(y8_0 == y2_0 && y8_1 == y2_1) then (some (false, ())) else (bif !(y10_0 == y13_0 && y10_1 == y13_1) then (bif !(y10_0 == y2_0 && y10_1 == y2_1) then (some (false, ())) else ((c23 ((y13_2, y13_3), ((y27_0, y27_1), ()))).bind fun ⟨y36, ()⟩ => (bif y36 then ((c23 ((y27_0, y27_1), ((y13_2, y13_3), ()))).bind fun ⟨y38, ()⟩ => (bif (y8_0 == y2_0 && y8_1 == y2_1) == y38 then (some (y10_0 == y8_0 && y10_1 == y8_1, ())) else (some (false, ())))) else ((c23 ((y27_0, y27_1), ((y13_2, y13_3), ()))).bind fun ⟨y38, ()⟩ => (bif y38 then ((c23 ((y27_0, y27_1), ((y13_2, y13_3), ()))).bind fun ⟨y40, ()⟩ => (bif (y8_0 == y2_0 && y8_1 == y2_1) == y40 then (some (y10_0 == y8_0 && y10_1 == y8_1, ())) else (some (false, ())))) else (bif y8_0 == y2_0 && y8_1 == y2_1 then (let v0 : Int := Int.tmod y10_1 2; some (v0 == 0, ())) else (some (false, ())))))))) else ((c23 ((y13_2, y13_3), ((y27_0, y27_1), ()))).bind fun ⟨y35, ()⟩ => (bif y35 then ((c23 ((y27_0, y27_1), ((y13_2, y13_3), ()))).bind fun ⟨y37, ()⟩ => (bif (y8_0 == y2_0 && y8_1 == y2_1) == y37 then (some (y10_0 == y8_0 && y10_1 == y8_1, ())) else (some (false, ())))) else ((c23 ((y27_0, y27_1), ((y13_2, y13_3), ()))).bind fun ⟨y37, ()⟩ => (bif y37 then ((c23 ((y27_0, y27_1), ((y13_2, y13_3), ()))).bind fun ⟨y39, ()⟩ => (bif (y8_0 == y2_0 && y8_1 == y2_1) == y39 then (some (y10_0 == y8_0 && y10_1 == y8_1, ())) else (some (false, ())))) else (bif y8_0 == y2_0 && y8_1 == y2_1 then (let v0 : Int := Int.tmod y10_1 2; some (v0 == 0, ())) else (some (false, ()))))))))) else (bif !(y10_0 == y13_0 && y10_1 == y13_1) then (bif !(y10_0 == y2_0 && y10_1 == y2_1) then (some (false, ())) else ((c23 ((y13_2, y13_3), ((y27_0, y27_1), ()))).bind fun ⟨y35, ()⟩ => (bif y35 then ((c23 ((y27_0, y27_1), ((y13_2, y13_3), ()))).bind fun ⟨y37, ()⟩ => (bif (y8_0 == y2_0 && y8_1 == y2_1) == y37 then (some (y10_0 == y8_0 && y10_1 == y8_1, ())) else (some (false, ())))) else ((c23 ((y27_0, y27_1), ((y13_2, y13_3), ()))).bind fun ⟨y37, ()⟩ => (bif y37 then ((c23 ((y27_0, y27_1), ((y13_2, y13_3), ()))).bind fun ⟨y39, ()⟩ => (bif (y8_0 == y2_0 && y8_1 == y2_1) == y39 then (some (y10_0 == y8_0 && y10_1 == y8_1, ())) else (some (false, ())))) else (bif y8_0 == y2_0 && y8_1 == y2_1 then (let v0 : Int := Int.tmod y10_1 2; some (v0 == 0, ())) else (some (false, ())))))))) else ((c23 ((y13_2, y13_3), ((y27_0, y27_1), ()))).bind fun ⟨y34, ()⟩ => (bif y34 then ((c23 ((y27_0, y27_1), ((y13_2, y13_3), ()))).bind fun ⟨y36, ()⟩ => (bif (y8_0 == y2_0 && y8_1 == y2_1) == y36 then (some (y10_0 == y8_0 && y10_1 == y8_1, ())) else (some (false, ())))) else ((c23 ((y27_0, y27_1), ((y13_2, y13_3), ()))).bind fun ⟨y36, ()⟩ => (bif y36 then ((c23 ((y27_0, y27_1), ((y13_2, y13_3), ()))).bind fun ⟨y38, ()⟩ => (bif (y8_0 == y2_0 && y8_1 == y2_1) == y38 then (some (y10_0 == y8_0 && y10_1 == y8_1, ())) else (some (false, ())))) else (bif y8_0 == y2_0 && y8_1 == y2_1 then (let v0 : Int := Int.tmod y10_1 2; some (v0 == 0, ())) else (some (false, ())))))))))))))))))))))) else ((c20 (0, ())).bind fun ⟨⟨y19_0, y19_1⟩, ()⟩ => ((c22 ((y13_2, y13_3), ())).bind fun ⟨y20, ()⟩ => (bif !(y12_0 == y19_0 && y12_1 == y19_1) == (y20 == 0) then (some (false, ())) else ((c22 ((y13_2, y13_3), ())).bind fun ⟨y22, ()⟩ => (bif y22 == 0 then (bif y2_0 == y13_0 && y2_1 == y13_1 then (bif y8_0 == y13_0 && y8_1 == y13_1 then (some (y10_0 == y13_0 && y10_1 == y13_1, ())) else (some (false, ()))) else (some (false, ()))) else (bif y2_0 == y13_0 && y2_1 == y13_1 then ((c24 ((b'_0, b'_1), ((y13_2, y13_3), ()))).bind fun ⟨⟨y25_0, y25_1⟩, ⟨y25_2, ()⟩⟩ => ((c22 ((b'_0, b'_1), ())).bind fun ⟨y26, ()⟩ => ((c22 ((y13_2, y13_3), ())).bind fun ⟨y27, ()⟩ => (bif !decide (y26 < 0) == decide (y27 < 0) then ((c21 ((b'_0, b'_1), ((y13_2, y13_3), ()))).bind fun ⟨⟨y29_0, y29_1⟩, ⟨y29_2, ()⟩⟩ => (bif y29_2 != 0 then (some (false, ())) else (bif !(y8_0 == y13_0 && y8_1 == y13_1) then (bif !(y8_0 == y4_0 && y8_1 == y4_1) then (some (false, ())) else (bif !(y10_0 == y13_0 && y10_1 == y13_1) then (bif !(y10_0 == y4_0 && y10_1 == y4_1) then (some (false, ())) else ((c23 ((y13_2, y13_3), ((y29_0, y29_1), ()))).bind fun ⟨y35, ()⟩ => (bif y35 then ((c23 ((y29_0, y29_1), ((y13_2, y13_3), ()))).bind fun ⟨y37, ()⟩ => (bif (y8_0 == y4_0 && y8_1 == y4_1) == y37 then (some (y10_0 == y8_0 && y10_1 == y8_1, ())) else (some (false, ())))) else ((c23 ((y29_0, y29_1), ((y13_2, y13_3), ()))).bind fun ⟨y37, ()⟩ => (bif y37 then ((c23 ((y29_0, y29_1), ((y13_2, y13_3), ()))).bind fun ⟨y39, ()⟩ => (bif (y8_0 == y4_0 && y8_1 == y4_1) == y39 then (some (y10_0 == y8_0 && y10_1 == y8_1, ())) else (some (false, ())))) else (bif y8_0 == y4_0 && y8_1 == y4_1 then (let v0 : Int := Int.tmod y10_1 2; some (v0 == 0, ())) else (some (false, ())))))))) else ((c23 ((y13_2, y13_3), ((y29_0, y29_1), ()))).bind fun ⟨y34, ()⟩ => (bif y34 then ((c23 ((y29_0, y29_1), ((y13_2, y13_3), ()))).bind fun ⟨y36, ()⟩ => (bif (y8_0 == y4_0 && y8_1 == y4_1) == y36 then (some (y10_0 == y8_0 && y10_1 == y8_1, ())) else (some (false, ())))) else ((c23 ((y29_0, y29_1), ((y13_2, y13_3), ()))).bind fun ⟨y36, ()⟩ => (bif y36 then ((c23 ((y29_0, y29_1), ((y13_2, y13_3), ()))).bind fun ⟨y38, ()⟩ => (bif (y8_0 == y4_0 && y8_1 == y4_1) == y38 then (some (y10_0 == y8_0 && y10_1 == y8_1, ())) else (some (false, ())))) else (bif y8_0 == y4_0 && y8_1 == y4_1 then (let v0 : Int := Int.tmod y10_1 2; some (v0 == 0, ())) else (some (false, ()))))))))) else (bif !(y10_0 == y13_0 && y10_1 == y13_1) then (bif !(y10_0 == y4_0 && y10_1 == y4_1) then (some (false, ())) else ((c23 ((y13_2, y13_3), ((y29_0, y29_1), ()))).bind fun ⟨y34, ()⟩ => (bif y34 then ((c23 ((y29_0, y29_1), ((y13_2, y13_3), ()))).bind fun ⟨y36, ()⟩ => (bif (y8_0 == y4_0 && y8_1 == y4_1) == y36 then (some (y10_0 == y8_0 && y10_1 == y8_1, ())) else (some (false, ())))) else ((c23 ((y29_0, y29_1), ((y13_2, y13_3), ()))).bind fun ⟨y36, ()⟩ => (bif y36 then ((c23 ((y29_0, y29_1), ((y13_2, y13_3), ()))).bind fun ⟨y38, ()⟩ => (bif (y8_0 == y4_0 && y8_1 == y4_1) == y38 then (some (y10_0 == y8_0 && y10_1 == y8_1, ())) else (some (false, ())))) else (bif y8_0 == y4_0 && y8_1 == y4_1 then (let v0 : Int := Int.tmod y10_1 2; some (v0 == 0, ())) else (some (false, ())))))))) else ((c23 ((y13_2, y13_3), ((y29_0, y29_1), ()))).bind fun ⟨y33, ()⟩ => (bif y33 then ((c23 ((y29_0, y29_1), ((y13_2, y13_3), ()))).bind fun ⟨y35, ()⟩ => (bif (y8_0 == y4_0 && y8_1 == y4_1) == y35 then (some (y10_0 == y8_0 && y10_1 == y8_1, ())) else (some (false, ())))) else ((c23 ((y29_0, y29_1), ((y13_2, y13_3), ()))).bind fun ⟨y35, ()⟩ => (bif y35 then ((c23 ((y29_0, y29_1), ((y13_2, y13_3), ()))).bind fun ⟨y37, ()⟩ => (bif (y8_0 == y4_0 && y8_1 == y4_1) == y37 then (some (y10_0 == y8_0 && y10_1 == y8_1, ())) else (some (false, ())))) else (bif y8_0 == y4_0 && y8_1 == y4_1 then (let v0 : Int := Int.tmod y10_1 2; some (v0 == 0, ())) else (some (false, ()))))))))))) else (bif y25_2 != 0 then (some (false, ())) else (bif !(y8_0 == y13_0 && y8_1 == y13_1) then (bif !(y8_0 == y4_0 && y8_1 == y4_1) then (some (false, ())) else (bif !(y10_0 == y13_0 && y10_1 == y13_1) then (bif !(y10_0 == y4_0 && y10_1 == y4_1) then (some (false, ())) else ((c23 ((y13_2, y13_3), ((y25_0, y25_1), ()))).bind fun ⟨y34, ()⟩ => (bif y34 then ((c23 ((y25_0, y25_1), ((y13_2, y13_3), ()))).bind fun ⟨y36, ()⟩ => (bif (y8_0 == y4_0 && y8_1 == y4_1) == y36 then (some (y10_0 == y8_0 && y10_1 == y8_1, ())) else (some (false, ())))) else ((c23 ((y25_0, y25_1), ((y13_2, y13_3), ()))).bind fun ⟨y36, ()⟩ => (bif y36 then ((c23 ((y25_0, y25_1), ((y13_2, y13_3), ()))).bind fun ⟨y38, ()⟩ => (bif (y8_0 == y4_0 && y8_1 == y4_1) == y38 then (some (y10_0 == y8_0 && y10_1 == y8_1, ())) else (some (false, ())))) else (bif y8_0 == y4_0 && y8_1 == y4_1 then (let v0 : Int := Int.tmod y10_1 2; some (v0 == 0, ())) else (some (false, ())))))))) else ((c23 ((y13_2, y13_3), ((y25_0, y25_1), ()))).bind fun ⟨y33, ()⟩ => (bif y33 then ((c23 ((y25_0, y25_1), ((y13_2, y13_3), ()))).bind fun ⟨y35, ()⟩ => (bif (y8_0 == y4_0 && y8_1 == y4_1) == y35 then (some (y10_0 == y8_0 && y10_1 == y8_1, ())) else (some (false, ())))) else ((c23 ((y25_0, y25_1), ((y13_2, y13_3), ()))).bind fun ⟨y35, ()⟩ => (bif y35 then ((c23 ((y25_0, y25_1), ((y13_2, y13_3), ()))).bind fun ⟨y37, ()⟩ => (bif (y8_0 == y4_0 && y8_1 == y4_1) == y37 then (some (y10_0 == y8_0 && y10_1 == y8_1, ())) else (some (false, ())))) else (bif y8_0 == y4_0 && y8_1 == y4_1 then (let v0 : Int := Int.tmod y10_1 2; some (v0 == 0, ())) else (some (false, ()))))))))) else (bif !(y10_0 == y13_0 && y10_1 == y13_1) then (bif !(y10_0 == y4_0 && y10_1 == y4_1) then (some (false, ())) else ((c23 ((y13_2, y13_3), ((y25_0, y25_1), ()))).bind fun ⟨y33, ()⟩ => (bif y33 then ((c23 ((y25_0, y25_1), ((y13_2, y13_3), ()))).bind fun ⟨y35, ()⟩ => (bif (y8_0 == y4_0 && y8_1 == y4_1) == y35 then (some (y10_0 == y8_0 && y10_1 == y8_1, ())) else (some (false, ())))) else ((c23 ((y25_0, y25_1), ((y13_2, y13_3), ()))).bind fun ⟨y35, ()⟩ => (bif y35 then ((c23 ((y25_0, y25_1), ((y13_2, y13_3), ()))).bind fun ⟨y37, ()⟩ => (bif (y8_0 == y4_0 && y8_1 == y4_1) == y37 then (some (y10_0 == y8_0 && y10_1 == y8_1, ())) else (some (false, ())))) else (bif y8_0 == y4_0 && y8_1 == y4_1 then (let v0 : Int := Int.tmod y10_1 2; some (v0 == 0, ())) else (some (false, ())))))))) else ((c23 ((y13_2, y13_3), ((y25_0, y25_1), ()))).bind fun ⟨y32, ()⟩ => (bif y32 then ((c23 ((y25_0, y25_1), ((y13_2, y13_3), ()))).bind fun ⟨y34, ()⟩ => (bif (y8_0 == y4_0 && y8_1 == y4_1) == y34 then (some (y10_0 == y8_0 && y10_1 == y8_1, ())) else (some (false, ())))) else ((c23 ((y25_0, y25_1), ((y13_2, y13_3), ()))).bind fun ⟨y34, ()⟩ => (bif y34 then ((c23 ((y25_0, y25_1), ((y13_2, y13_3), ()))).bind fun ⟨y36, ()⟩ => (bif (y8_0 == y4_0 && y8_1 == y4_1) == y36 then (some (y10_0 == y8_0 && y10_1 == y8_1, ())) else (some (false, ())))) else (bif y8_0 == y4_0 && y8_1 == y4_1 then (let v0 : Int := Int.tmod y10_1 2; some (v0 == 0, ())) else (some (false, ())))))))))))))) else ((c24 ((b'_0, b'_1), ((y13_2, y13_3), ()))).bind fun ⟨⟨y25_0, y25_1⟩, ⟨y25_2, ()⟩⟩ => ((c22 ((b'_0, b'_1), ())).bind fun ⟨y26, ()⟩ => ((c22 ((y13_2, y13_3), ())).bind fun ⟨y27, ()⟩ => (bif !decide (y26 < 0) == decide (y27 < 0) then ((c21 ((b'_0, b'_1), ((y13_2, y13_3), ()))).bind fun ⟨⟨y29_0, y29_1⟩, ⟨y29_2, ()⟩⟩ => (bif y29_2 != 0 then (some (false, ())) else (bif !(y8_0 == y13_0 && y8_1 == y13_1) then (bif !(y8_0 == y2_0 && y8_1 == y2_1) then (some (false, ())) else (bif !(y10_0 == y13_0 && y10_1 == y13_1) then (bif !(y10_0 == y2_0 && y10_1 == y2_1) then (some (false, ())) else ((c23 ((y13_2, y13_3), ((y29_0, y29_1), ()))).bind fun ⟨y35, ()⟩ => (bif y35 then ((c23 ((y29_0, y29_1), ((y13_2, y13_3), ()))).bind fun ⟨y37, ()⟩ => (bif (y8_0 == y2_0 && y8_1 == y2_1) == y37 then (some (y10_0 == y8_0 && y10_1 == y8_1, ())) else (some (false, ())))) else ((c23 ((y29_0, y29_1), ((y13_2, y13_3), ()))).bind fun ⟨y37, ()⟩ => (bif y37 then ((c23 ((y29_0, y29_1), ((y13_2, y13_3), ()))).bind fun ⟨y39, ()⟩ => (bif (y8_0 == y2_0 && y8_1 == y2_1) == y39 then (some (y10_0 == y8_0 && y10_1 == y8_1, ())) else (some (false, ())))) else (bif y8_0 == y2_0 && y8_1 == y2_1 then (let v0 : Int := Int.tmod y10_1 2; some (v0 == 0, ())) else (some (false, ())))))))) else ((c23 ((y13_2, y13_3), ((y29_0, y29_1), ()))).bind fun ⟨y34, ()⟩ => (bif y34 then ((c23 ((y29_0, y29_1), ((y13_2, y13_3), ()))).bind fun ⟨y36, ()⟩ => (bif (y8_0 == y2_0 && y8_1 == y2_1) == y36 then (some (y10_0 == y8_0 && y10_1 == y8_1, ())) else (some (false, ())))) else ((c23 ((y29_0, y29_1), ((y13_2, y13_3), ()))).bind fun ⟨y36, ()⟩ => (bif y36 then ((c23 ((y29_0, y29_1), ((y13_2, y13_3), ()))).bind fun ⟨y38, ()⟩ => (bif (y8_0 == y2_0 && y8_1 == y2_1) == y38 then (some (y10_0 == y8_0 && y10_1 == y8_1, ())) else (some (false, ())))) else (bif y8_0 == y2_0 && y8_1 == y2_1 then (let v0 : Int := Int.tmod y10_1 2; some (v0 == 0, ())) else (some (false, ()))))))))) else (bif !(y10_0 == y13_0 && y10_1 == y13_1) then (bif !(y10_0 == y2_0 && y10_1 == y2_1) then (some (false, ())) else ((c23 ((y13_2, y13_3), ((y29_0, y29_1), ()))).bind fun ⟨y34, ()⟩ => (bif y34 then ((c23 ((y29_0, y29_1), ((y13_2, y13_3), ()))).bind fun ⟨y36, ()⟩ => (bif (y8_0 == y2_0 && y8_1 == y2_1) == y36 then (some (y10_0 == y8_0 && y10_1 == y8_1, ())) else (some (false, ())))) else ((c23 ((y29_0, y29_1), ((y13_2, y13_3), ()))).bind fun ⟨y36, ()⟩ => (bif y36 then ((c23 ((y29_0, y29_1), ((y13_2, y13_3), ()))).bind fun ⟨y38, ()⟩ => (bif (y8_0 == y2_0 && y8_1 == y2_1) == y38 then (some (y10_0 == y8_0 && y10_1 == y8_1, ())) else (some (false, ())))) else (bif y8_0 == y2_0 && y8_1 == y2_1 then (let v0 : Int := Int.tmod y10_1 2; some (v0 == 0, ())) else (some (false, ())))))))) else ((c23 ((y13_2, y13_3), ((y29_0, y29_1), ()))).bind fun ⟨y33, ()⟩ => (bif y33 then ((c23 ((y29_0, y29_1), ((y13_2, y13_3), ()))).bind fun ⟨y35, ()⟩ => (bif (y8_0 == y2_0 && y8_1 == y2_1) == y35 then (some (y10_0 == y8_0 && y10_1 == y8_1, ())) else (some (false, ())))) else ((c23 ((y29_0, y29_1), ((y13_2, y13_3), ()))).bind fun ⟨y35, ()⟩ => (bif y35 then ((c23 ((y29_0, y29_1), ((y13_2, y13_3), ()))).bind fun ⟨y37, ()⟩ => (bif (y8_0 == y2_0 && y8_1 == y2_1) == y37 then (some (y10_0 == y8_0 && y10_1 == y8_1, ())) else (some (false, ())))) else (bif y8_0 == y2_0 && y8_1 == y2_1 then (let v0 : Int := Int.tmod y10_1 2; some (v0 == 0, ())) else (some (false, ()))))))))))) else (bif y25_2 != 0 then (some (false, ())) else (bif !(y8_0 == y13_0 && y8_1 == y13_1) then (bif !(y8_0 == y2_0 && y8_1 == y2_1) then (some (false, ())) else (bif !(y10_0 == y13_0 && y10_1 == y13_1) then (bif !(y10_0 == y2_0 && y10_1 == y2_1) then (some (false, ())) else ((c23 ((y13_2, y13_3), ((y25_0, y25_1), ()))).bind fun ⟨y34, ()⟩ => (bif y34 then ((c23 ((y25_0, y25_1), ((y13_2, y13_3), ()))).bind fun ⟨y36, ()⟩ => (bif (y8_0 == y2_0 && y8_1 == y2_1) == y36 then (some (y10_0 == y8_0 && y10_1 == y8_1, ())) else (some (false, ())))) else ((c23 ((y25_0, y25_1), ((y13_2, y13_3), ()))).bind fun ⟨y36, ()⟩ => (bif y36 then ((c23 ((y25_0, y25_1), ((y13_2, y13_3), ()))).bind fun ⟨y38, ()⟩ => (bif (y8_0 == y2_0 && y8_1 == y2_1) == y38 then (some (y10_0 == y8_0 && y10_1 == y8_1, ())) else (some (false, ())))) else (bif y8_0 == y2_0 && y8_1 == y2_1 then (let v0 : Int := Int.tmod y10_1 2; some (v0 == 0, ())) else (some (false, ())))))))) else ((c23 ((y13_2, y13_3), ((y25_0, y25_1), ()))).bind fun ⟨y33, ()⟩ => (bif y33 then ((c23 ((y25_0, y25_1), ((y13_2, y13_3), ()))).bind fun ⟨y35, ()⟩ => (bif (y8_0 == y2_0 && y8_1 == y2_1) == y35 then (some (y10_0 == y8_0 && y10_1 == y8_1, ())) else (some (false, ())))) else ((c23 ((y25_0, y25_1), ((y13_2, y13_3), ()))).bind fun ⟨y35, ()⟩ => (bif y35 then ((c23 ((y25_0, y25_1), ((y13_2, y13_3), ()))).bind fun ⟨y37, ()⟩ => (bif (y8_0 == y2_0 && y8_1 == y2_1) == y37 then (some (y10_0 == y8_0 && y10_1 == y8_1, ())) else (some (false, ())))) else (bif y8_0 == y2_0 && y8_1 == y2_1 then (let v0 : Int := Int.tmod y10_1 2; some (v0 == 0, ())) else (some (false, ()))))))))) else (bif !(y10_0 == y13_0 && y10_1 == y13_1) then (bif !(y10_0 == y2_0 && y10_1 == y2_1) then (some (false, ())) else ((c23 ((y13_2, y13_3), ((y25_0, y25_1), ()))).bind fun ⟨y33, ()⟩ => (bif y33 then ((c23 ((y25_0, y25_1), ((y13_2, y13_3), ()))).bind fun ⟨y35, ()⟩ => (bif (y8_0 == y2_0 && y8_1 == y2_1) == y35 then (some (y10_0 == y8_0 && y10_1 == y8_1, ())) else (some (false, ())))) else ((c23 ((y25_0, y25_1), ((y13_2, y13_3), ()))).bind fun ⟨y35, ()⟩ => (bif y35 then ((c23 ((y25_0, y25_1), ((y13_2, y13_3), ()))).bind fun ⟨y37, ()⟩ => (bif (y8_0 == y2_0 && y8_1 == y2_1) == y37 then (some (y10_0 == y8_0 && y10_1 == y8_1, ())) else (some (false, ())))) else (bif y8_0 == y2_0 && y8_1 == y2_1 then (let v0 : Int := Int.tmod y10_1 2; some (v0 == 0, ())) else (some (false, ())))))))) else ((c23 ((y13_2, y13_3), ((y25_0, y25_1), ()))).bind fun ⟨y32, ()⟩ => (bif y32 then ((c23 ((y25_0, y25_1), ((y13_2, y13_3), ()))).bind fun ⟨y34, ()⟩ => (bif (y8_0 == y2_0 && y8_1 == y2_1) == y34 then (some (y10_0 == y8_0 && y10_1 == y8_1, ())) else (some (false, ())))) else ((c23 ((y25_0, y25_1), ((y13_2, y13_3), ()))).bind fun ⟨y34, ()⟩ => (bif y34 then ((c23 ((y25_0, y25_1), ((y13_2, y13_3), ()))).bind fun ⟨y36, ()⟩ => (bif (y8_0 == y2_0 && y8_1 == y2_1) == y36 then (some (y10_0 == y8_0 && y10_1 == y8_1, ())) else (some (false, ())))) else (bif y8_0 == y2_0 && y8_1 == y2_1 then (let v0 : Int := Int.tmod y10_1 2; some (v0 == 0, ())) else (some (false, ())))))))))))))))))))))))))))))))))))))))
def N9 : A9 → Option B9 := M9 N11 N16 N22 N20 N24 N14 N21 N23
def C9 : Ctr τ := ⟨i9, o9, N9⟩
theorem g9 : GOK κ Try.prog (G9 N11 N16 N22 N20 N24 N14 N21 N23) := (gok_cons s11 (gok_cons s16 (gok_cons s22 (gok_cons s20 (gok_cons s24 (gok_cons s14 (gok_cons s21 (gok_cons s23 gok_nil))))))))
theorem lall9 : ∀ Z : Zn, Z.rl = C9.o.keeps → Try.f9.ntmps ≤ Z.nt → ∀ p ∈ loops 0 (bodyOf Try.f9), ∀ C, (tabL []) p.1 = some C → LoopOK κ Try.prog Z p.2 C := fun Z h n => all_loops [(0, loopAt Try.f9 0)] (by kernel_rfl) (all_cons (fun C hC => by cases hC) (fun _ h => by cases h))
theorem e9 : ∀ (c11 : A11 → Option B11) (c16 : A16 → Option B16) (c22 : A22 → Option B22) (c20 : A20 → Option B20) (c24 : A24 → Option B24) (c14 : A14 → Option B14) (c21 : A21 → Option B21) (c23 : A23 → Option B23) x, M9 c11 c16 c22 c20 c24 c14 c21 c23 x = fnE Try.prog κ (G9 c11 c16 c22 c20 c24 c14 c21 c23) (tabL []) Try.f9 i9 o9 x := fun c11 c16 c22 c20 c24 c14 c21 c23 x => by kernel_rfl
theorem s9 : Sound κ Try.prog C9 9 := fn_sound (S := (tabL [])) (F := Try.f9) (code := bodyOf Try.f9) (by kernel_rfl) g9 Try.func9 (by kernel_rfl) (by kernel_rfl) (by kernel_rfl) lall9 (by kernel_rfl) (by kernel_rfl) fun x y h => (e9 N11 N16 N22 N20 N24 N14 N21 N23 x).symm.trans h
end Go.Proofs.Ytieeaicdpdidpaa.E
