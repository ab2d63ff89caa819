/- What each function comes to, told as a Lean function, and that the machine does so. No condition. -/
import Derived.Test.YtdcfpgkgaaobhaaGE2
import Derived.Test.YtdcfpgkgaaobhaaProg
import Derived.Sort.LotA
import Derived.Laws.Strings
import Derived.WalkKit
import Derived.Deep.LoopGhost
import Derived.Lib.Walk
import Derived.Lib.SliceRun
namespace Go.Proofs.Ytdcfpgkgaaobhaa.E
open Go
set_option linter.unusedVariables false
abbrev T30 : Type := (Int × (Int × (ByteArray × Int)))
abbrev T3 : Type := Int
abbrev T50 : Type := ((List T30) × Int)
abbrev T40 : Type := ((List T30) × Int)
abbrev T42 : Type := (Int × ((Int × (Int × (ByteArray × Int))) × Int))
abbrev T1000028 : Type := (T3 × Unit)
def τ : Nat → Type := fun e => bif Nat.beq e 30 then T30 else bif Nat.beq e 3 then T3 else bif Nat.beq e 50 then T50 else bif Nat.beq e 40 then T40 else bif Nat.beq e 42 then T42 else bif Nat.beq e 1000028 then T1000028 else Unit
theorem τ_else {e : Nat} (h30 : ¬ e = 30) (h3 : ¬ e = 3) (h50 : ¬ e = 50) (h40 : ¬ e = 40) (h42 : ¬ e = 42) (h1000028 : ¬ e = 1000028) : τ e = Unit := by simp [τ, beq_false h30, beq_false h3, beq_false h50, beq_false h40, beq_false h42, beq_false h1000028]
def κ : (e : Nat) → K τ (τ e) := fun e => if h30 : e = 30 then h30 ▸ (show K τ (τ 30) from ((.pair (.int .i64) (.pair (.int .i64) (.pair .str (.int .i64)))) : K τ T30)) else if h3 : e = 3 then h3 ▸ (show K τ (τ 3) from ((.int .i64) : K τ T3)) else if h50 : e = 50 then h50 ▸ (show K τ (τ 50) from ((.pair (.sl 30) (.int .i64)) : K τ T50)) else if h40 : e = 40 then h40 ▸ (show K τ (τ 40) from ((.pair (.sl 30) (.int .i64)) : K τ T40)) else if h42 : e = 42 then h42 ▸ (show K τ (τ 42) from ((.pair (.int .i64) (.pair (.pair (.int .i64) (.pair (.int .i64) (.pair .str (.int .i64)))) (.int .i64))) : K τ T42)) else if h1000028 : e = 1000028 then h1000028 ▸ (show K τ (τ 1000028) from ((.pair (.ref 3) .unit) : K τ T1000028)) else cast (congrArg (K τ) (τ_else h30 h3 h50 h40 h42 h1000028).symm) K.unit
end Go.Proofs.Ytdcfpgkgaaobhaa.E
namespace Go.Proofs.Ytdcfpgkgaaobhaa.E
open Go
set_option linter.unusedVariables false
set_option maxRecDepth 100000
abbrev A23 : Type := ((List T30) × Unit)
abbrev B23 : Type := ((List T30) × Unit)
def i23 : Fr τ A23 := (.val 0 (.sl 30) .nil)
def o23 : Fr τ B23 := (.own 1000 30 .nil)
def G23 : Nat → Option (Ctr τ) := tabG []
def M23 : A23 → Option B23 := fun ⟨s', ()⟩ => ((bif !List.isEmpty s' then some () else none).bind fun () => ((bif decide ((0 + List.length s') * 40 ≤ 210000000000000) then some () else none).bind fun () => (some ([] ++ s', ()))))
def N23 : A23 → Option B23 := M23
def C23 : Ctr τ := ⟨i23, o23, N23, 0⟩
theorem g23 : GOK κ Try.prog (G23) := gok_nil
theorem lall23 : ∀ Z : Zn, Z.rl = C23.o.keeps → Try.f23.ntmps ≤ Z.nt → ∀ p ∈ loops 0 (bodyOf Try.f23), ∀ C, (tabL []) p.1 = some C → LoopOK κ Try.prog Z p.2 C := fun Z h n => fun p hp => (by cases (show p ∈ ([] : List (Nat × Code)) from hp))
theorem e23 : ∀ x, M23 x = fnE Try.prog κ (G23) (tabL []) Try.f23 i23 o23 x := fun x => by kernel_rfl
theorem s23 : Sound κ Try.prog C23 23 := fn_sound (S := (tabL [])) (F := Try.f23) (code := bodyOf Try.f23) (by kernel_rfl) g23 Try.func23 (by kernel_rfl) (by kernel_rfl) (by kernel_rfl) lall23 (by kernel_rfl) (by kernel_rfl) fun x y h => (e23 x).symm.trans h
end Go.Proofs.Ytdcfpgkgaaobhaa.E
namespace Go.Proofs.Ytdcfpgkgaaobhaa.E
open Go
set_option linter.unusedVariables false
set_option maxRecDepth 100000
abbrev A48 : Type := (Int × Unit)
abbrev B48 : Type := (Bool × Unit)
def i48 : Fr τ A48 := (.val 0 (.int .i64) .nil)
def o48 : Fr τ B48 := (.val 1000 .bool .nil)
def G48 : Nat → Option (Ctr τ) := tabG []
def M48 : A48 → Option B48 := fun ⟨x', ()⟩ => (some (x' != x', ()))
def N48 : A48 → Option B48 := M48
def C48 : Ctr τ := ⟨i48, o48, N48, 0⟩
theorem g48 : GOK κ Try.prog (G48) := gok_nil
theorem lall48 : ∀ Z : Zn, Z.rl = C48.o.keeps → Try.f48.ntmps ≤ Z.nt → ∀ p ∈ loops 0 (bodyOf Try.f48), ∀ C, (tabL []) p.1 = some C → LoopOK κ Try.prog Z p.2 C := fun Z h n => fun p hp => (by cases (show p ∈ ([] : List (Nat × Code)) from hp))
theorem e48 : ∀ x, M48 x = fnE Try.prog κ (G48) (tabL []) Try.f48 i48 o48 x := fun x => by kernel_rfl
theorem s48 : Sound κ Try.prog C48 48 := fn_sound (S := (tabL [])) (F := Try.f48) (code := bodyOf Try.f48) (by kernel_rfl) g48 Try.func48 (by kernel_rfl) (by kernel_rfl) (by kernel_rfl) lall48 (by kernel_rfl) (by kernel_rfl) fun x y h => (e48 x).symm.trans h
end Go.Proofs.Ytdcfpgkgaaobhaa.E
namespace Go.Proofs.Ytdcfpgkgaaobhaa.E
open Go
set_option linter.unusedVariables false
set_option maxRecDepth 100000
abbrev A34 : Type := (Int × Int × Unit)
abbrev B34 : Type := (Int × Unit)
def i34 : Fr τ A34 := (.val 0 (.int .i64) (.val 1 (.int .i64) .nil))
def o34 : Fr τ B34 := (.val 1000 (.int .i64) .nil)
def G34 (c48 : A48 → Option B48) : Nat → Option (Ctr τ) := tabG [(48, (⟨i48, o48, c48, 0⟩ : Ctr τ))]
def M34 (c48 : A48 → Option B48) : A34 → Option B34 := fun ⟨x', ⟨y', ()⟩⟩ => ((c48 (x', ())).bind fun ⟨y0, ()⟩ => ((c48 (y', ())).bind fun ⟨y1, ()⟩ => (bif y0 then (bif y1 then (some (0, ())) else (some (-1, ()))) else (bif y1 then (some (1, ())) else (bif decide (x' < y') then (some (-1, ())) else (bif decide (x' > y') then (some (1, ())) else (some (0, ()))))))))
def N34 : A34 → Option B34 := M34 N48
def C34 : Ctr τ := ⟨i34, o34, N34, 0⟩
theorem g34 : GOK κ Try.prog (G34 N48) := (gok_cons s48 (keeps0 rfl) gok_nil)
theorem lall34 : ∀ Z : Zn, Z.rl = C34.o.keeps → Try.f34.ntmps ≤ Z.nt → ∀ p ∈ loops 0 (bodyOf Try.f34), ∀ C, (tabL []) p.1 = some C → LoopOK κ Try.prog Z p.2 C := fun Z h n => fun p hp => (by cases (show p ∈ ([] : List (Nat × Code)) from hp))
theorem e34 : ∀ (c48 : A48 → Option B48) x, M34 c48 x = fnE Try.prog κ (G34 c48) (tabL []) Try.f34 i34 o34 x := fun c48 x => by kernel_rfl
theorem s34 : Sound κ Try.prog C34 34 := fn_sound (S := (tabL [])) (F := Try.f34) (code := bodyOf Try.f34) (by kernel_rfl) g34 Try.func34 (by kernel_rfl) (by kernel_rfl) (by kernel_rfl) lall34 (by kernel_rfl) (by kernel_rfl) fun x y h => (e34 N48 x).symm.trans h
end Go.Proofs.Ytdcfpgkgaaobhaa.E
namespace Go.Proofs.Ytdcfpgkgaaobhaa.E
open Go
set_option linter.unusedVariables false
set_option maxRecDepth 100000
abbrev A49 : Type := (Int × Unit)
abbrev B49 : Type := (Bool × Unit)
def i49 : Fr τ A49 := (.val 0 (.int .i64) .nil)
def o49 : Fr τ B49 := (.val 1000 .bool .nil)
def G49 : Nat → Option (Ctr τ) := tabG []
def M49 : A49 → Option B49 := fun ⟨x', ()⟩ => (some (x' != x', ()))
def N49 : A49 → Option B49 := M49
def C49 : Ctr τ := ⟨i49, o49, N49, 0⟩
theorem g49 : GOK κ Try.prog (G49) := gok_nil
theorem lall49 : ∀ Z : Zn, Z.rl = C49.o.keeps → Try.f49.ntmps ≤ Z.nt → ∀ p ∈ loops 0 (bodyOf Try.f49), ∀ C, (tabL []) p.1 = some C → LoopOK κ Try.prog Z p.2 C := fun Z h n => fun p hp => (by cases (show p ∈ ([] : List (Nat × Code)) from hp))
theorem e49 : ∀ x, M49 x = fnE Try.prog κ (G49) (tabL []) Try.f49 i49 o49 x := fun x => by kernel_rfl
theorem s49 : Sound κ Try.prog C49 49 := fn_sound (S := (tabL [])) (F := Try.f49) (code := bodyOf Try.f49) (by kernel_rfl) g49 Try.func49 (by kernel_rfl) (by kernel_rfl) (by kernel_rfl) lall49 (by kernel_rfl) (by kernel_rfl) fun x y h => (e49 x).symm.trans h
end Go.Proofs.Ytdcfpgkgaaobhaa.E
namespace Go.Proofs.Ytdcfpgkgaaobhaa.E
open Go
set_option linter.unusedVariables false
set_option maxRecDepth 100000
abbrev A35 : Type := (Int × Int × Unit)
abbrev B35 : Type := (Int × Unit)
def i35 : Fr τ A35 := (.val 0 (.int .i64) (.val 1 (.int .i64) .nil))
def o35 : Fr τ B35 := (.val 1000 (.int .i64) .nil)
def G35 (c49 : A49 → Option B49) : Nat → Option (Ctr τ) := tabG [(49, (⟨i49, o49, c49, 0⟩ : Ctr τ))]
def M35 (c49 : A49 → Option B49) : A35 → Option B35 := fun ⟨x', ⟨y', ()⟩⟩ => ((c49 (x', ())).bind fun ⟨y0, ()⟩ => ((c49 (y', ())).bind fun ⟨y1, ()⟩ => (bif y0 then (bif y1 then (some (0, ())) else (some (-1, ()))) else (bif y1 then (some (1, ())) else (bif decide (x' < y') then (some (-1, ())) else (bif decide (x' > y') then (some (1, ())) else (some (0, ()))))))))
def N35 : A35 → Option B35 := M35 N49
def C35 : Ctr τ := ⟨i35, o35, N35, 0⟩
theorem g35 : GOK κ Try.prog (G35 N49) := (gok_cons s49 (keeps0 rfl) gok_nil)
theorem lall35 : ∀ Z : Zn, Z.rl = C35.o.keeps → Try.f35.ntmps ≤ Z.nt → ∀ p ∈ loops 0 (bodyOf Try.f35), ∀ C, (tabL []) p.1 = some C → LoopOK κ Try.prog Z p.2 C := fun Z h n => fun p hp => (by cases (show p ∈ ([] : List (Nat × Code)) from hp))
theorem e35 : ∀ (c49 : A49 → Option B49) x, M35 c49 x = fnE Try.prog κ (G35 c49) (tabL []) Try.f35 i35 o35 x := fun c49 x => by kernel_rfl
theorem s35 : Sound κ Try.prog C35 35 := fn_sound (S := (tabL [])) (F := Try.f35) (code := bodyOf Try.f35) (by kernel_rfl) g35 Try.func35 (by kernel_rfl) (by kernel_rfl) (by kernel_rfl) lall35 (by kernel_rfl) (by kernel_rfl) fun x y h => (e35 N49 x).symm.trans h
end Go.Proofs.Ytdcfpgkgaaobhaa.E
namespace Go.Proofs.Ytdcfpgkgaaobhaa.E
open Go
set_option linter.unusedVariables false
set_option maxRecDepth 100000
abbrev A50 : Type := (ByteArray × Unit)
abbrev B50 : Type := (Bool × Unit)
def i50 : Fr τ A50 := (.val 0 .str .nil)
def o50 : Fr τ B50 := (.val 1000 .bool .nil)
def G50 : Nat → Option (Ctr τ) := tabG []
def M50 : A50 → Option B50 := fun ⟨x', ()⟩ => (some (!ByteArray.toList x' == ByteArray.toList x', ()))
def N50 : A50 → Option B50 := M50
def C50 : Ctr τ := ⟨i50, o50, N50, 0⟩
theorem g50 : GOK κ Try.prog (G50) := gok_nil
theorem lall50 : ∀ Z : Zn, Z.rl = C50.o.keeps → Try.f50.ntmps ≤ Z.nt → ∀ p ∈ loops 0 (bodyOf Try.f50), ∀ C, (tabL []) p.1 = some C → LoopOK κ Try.prog Z p.2 C := fun Z h n => fun p hp => (by cases (show p ∈ ([] : List (Nat × Code)) from hp))
theorem e50 : ∀ x, M50 x = fnE Try.prog κ (G50) (tabL []) Try.f50 i50 o50 x := fun x => by kernel_rfl
theorem s50 : Sound κ Try.prog C50 50 := fn_sound (S := (tabL [])) (F := Try.f50) (code := bodyOf Try.f50) (by kernel_rfl) g50 Try.func50 (by kernel_rfl) (by kernel_rfl) (by kernel_rfl) lall50 (by kernel_rfl) (by kernel_rfl) fun x y h => (e50 x).symm.trans h
end Go.Proofs.Ytdcfpgkgaaobhaa.E
namespace Go.Proofs.Ytdcfpgkgaaobhaa.E
open Go
set_option linter.unusedVariables false
set_option maxRecDepth 100000
abbrev A36 : Type := (ByteArray × ByteArray × Unit)
abbrev B36 : Type := (Int × Unit)
def i36 : Fr τ A36 := (.val 0 .str (.val 1 .str .nil))
def o36 : Fr τ B36 := (.val 1000 (.int .i64) .nil)
def G36 (c50 : A50 → Option B50) : Nat → Option (Ctr τ) := tabG [(50, (⟨i50, o50, c50, 0⟩ : Ctr τ))]
def M36 (c50 : A50 → Option B50) : A36 → Option B36 := fun ⟨x', ⟨y', ()⟩⟩ => ((c50 (x', ())).bind fun ⟨y0, ()⟩ => ((c50 (y', ())).bind fun ⟨y1, ()⟩ => (bif y0 then (bif y1 then (some (0, ())) else (some (-1, ()))) else (bif y1 then (some (1, ())) else (bif Op.bytesLess (ByteArray.toList x') (ByteArray.toList y') then (some (-1, ())) else (bif !(Op.bytesLess (ByteArray.toList x') (ByteArray.toList y') || ByteArray.toList x' == ByteArray.toList y') then (some (1, ())) else (some (0, ()))))))))
def N36 : A36 → Option B36 := M36 N50
def C36 : Ctr τ := ⟨i36, o36, N36, 0⟩
theorem g36 : GOK κ Try.prog (G36 N50) := (gok_cons s50 (keeps0 rfl) gok_nil)
theorem lall36 : ∀ Z : Zn, Z.rl = C36.o.keeps → Try.f36.ntmps ≤ Z.nt → ∀ p ∈ loops 0 (bodyOf Try.f36), ∀ C, (tabL []) p.1 = some C → LoopOK κ Try.prog Z p.2 C := fun Z h n => fun p hp => (by cases (show p ∈ ([] : List (Nat × Code)) from hp))
theorem e36 : ∀ (c50 : A50 → Option B50) x, M36 c50 x = fnE Try.prog κ (G36 c50) (tabL []) Try.f36 i36 o36 x := fun c50 x => by kernel_rfl
theorem s36 : Sound κ Try.prog C36 36 := fn_sound (S := (tabL [])) (F := Try.f36) (code := bodyOf Try.f36) (by kernel_rfl) g36 Try.func36 (by kernel_rfl) (by kernel_rfl) (by kernel_rfl) lall36 (by kernel_rfl) (by kernel_rfl) fun x y h => (e36 N50 x).symm.trans h
end Go.Proofs.Ytdcfpgkgaaobhaa.E
namespace Go.Proofs.Ytdcfpgkgaaobhaa.E
open Go
set_option linter.unusedVariables false
set_option maxRecDepth 100000
abbrev A33 : Type := ((List T3) × Unit)
abbrev B33 : Type := (Int × Unit)
def i33 : Fr τ A33 := (.val 0 (.sl 3) .nil)
def o33 : Fr τ B33 := (.val 1000 (.int .i64) .nil)
def G33 : Nat → Option (Ctr τ) := tabG []
abbrev LA33_0 : Type := (Int × (List T3) × Int × Int × Unit)
abbrev LB33_0 : Type := (Int × Unit) ⊕ (Int × Unit)
def li33_0 : Fr τ LA33_0 := (.val 3 (.int .i64) (.val 6 (.sl 3) (.val 7 (.int .i64) (.val 8 (.int .i64) .nil))))
def lo33_0 : Ot τ LB33_0 := .alt (.exit 0) (.val 3 (.int .i64) .nil) (.one .ret (.val 2 (.int .i64) .nil))
def Q33_0 : LA33_0 → Option (LA33_0 ⊕ LB33_0) := fun ⟨zero', ⟨t6', ⟨t7', ⟨t8', ()⟩⟩⟩⟩ => (bif decide (t8' < t7') then ((bif decide (0 ≤ t8') then t6'[Int.toNat t8']? else none).bind fun y1 => (bif y1 != zero' then (some (.inr (.inr (y1, ())))) else (let v0 : Int := t8' + 1; let v1 : Int := IntKind.wrap IntKind.i64 v0; some (.inl (zero', (t6', (t7', (v1, ())))))))) else (some (.inr (.inl (zero', ())))))
def R33_0 : LA33_0 → Option (LA33_0 ⊕ LB33_0) := Q33_0
def L33_0 : Lc τ := ⟨li33_0, itrs R33_0, lo33_0⟩
def M33 (l33_0 : LA33_0 → Option LB33_0) : A33 → Option B33 := fun ⟨vals', ()⟩ => (let v0 : Int := ↑(List.length vals'); (l33_0 (0, (vals', (v0, (0, ()))))).bind fun y0 => (match y0 with | .inl ⟨y1, ()⟩ => (some (y1, ())) | .inr ⟨y1, ()⟩ => (some (y1, ()))))
def N33 : A33 → Option B33 := M33 (itrs R33_0)
def C33 : Ctr τ := ⟨i33, o33, N33, 0⟩
theorem g33 : GOK κ Try.prog (G33) := gok_nil
theorem le33_0 : ∀ x, Q33_0 x = run Try.prog κ (G33) (tabL []) 0 (loopAt Try.f33 0) (li33_0.build x) (rnd li33_0 lo33_0) := fun x => by kernel_rfl
theorem linner33_0 : ∀ Z : Zn, Z.rl = [] → 18 ≤ Z.nt → ∀ p ∈ loops 0 (loopAt Try.f33 0), ∀ C, (tabL []) p.1 = some C → LoopOK κ Try.prog Z p.2 C := fun Z h n => fun p hp => (by cases (show p ∈ ([] : List (Nat × Code)) from hp))
theorem lk33_0 : ∀ Z : Zn, Z.rl = [] → 18 ≤ Z.nt → LoopOK κ Try.prog Z (loopAt Try.f33 0) L33_0 := fun Z h n => loop_ok (S := (tabL [])) R33_0 (by kernel_rfl) g33 (by rw [h]; exact dsts_mono n _ (by kernel_rfl)) (linner33_0 Z h n) (by kernel_rfl) (by kernel_rfl) (le33_0) itrs_rounds
theorem lall33 : ∀ Z : Zn, Z.rl = C33.o.keeps → Try.f33.ntmps ≤ Z.nt → ∀ p ∈ loops 0 (bodyOf Try.f33), ∀ C, (tabL [(0, L33_0)]) p.1 = some C → LoopOK κ Try.prog Z p.2 C := fun Z h n => all_loops [(0, loopAt Try.f33 0)] (by kernel_rfl) (all_cons (fun C hC => (Option.some.inj hC : L33_0 = C) ▸ lk33_0 Z h n) (fun _ h => by cases h))
theorem e33 : ∀ (l33_0 : LA33_0 → Option LB33_0) x, M33 l33_0 x = fnE Try.prog κ (G33) (tabL [(0, (⟨li33_0, l33_0, lo33_0⟩ : Lc τ))]) Try.f33 i33 o33 x := fun l33_0 x => by kernel_rfl
theorem s33 : Sound κ Try.prog C33 33 := fn_sound (S := (tabL [(0, L33_0)])) (F := Try.f33) (code := bodyOf Try.f33) (by kernel_rfl) g33 Try.func33 (by kernel_rfl) (by kernel_rfl) (by kernel_rfl) lall33 (by kernel_rfl) (by kernel_rfl) fun x y h => (e33 (itrs R33_0) x).symm.trans h
end Go.Proofs.Ytdcfpgkgaaobhaa.E
namespace Go.Proofs.Ytdcfpgkgaaobhaa.E
open Go
set_option linter.unusedVariables false
set_option maxRecDepth 100000
abbrev A25 : Type := ((Int × (Int × (ByteArray × Int))) × (Int × (Int × (ByteArray × Int))) × Unit)
abbrev B25 : Type := (Int × Unit)
def i25 : Fr τ A25 := (.val 0 (.pair (.int .i64) (.pair (.int .i64) (.pair .str (.int .i64)))) (.val 1 (.pair (.int .i64) (.pair (.int .i64) (.pair .str (.int .i64)))) .nil))
def o25 : Fr τ B25 := (.val 1000 (.int .i64) .nil)
def G25 (c34 : A34 → Option B34) (c35 : A35 → Option B35) (c36 : A36 → Option B36) (c33 : A33 → Option B33) : Nat → Option (Ctr τ) := tabG [(34, (⟨i34, o34, c34, 0⟩ : Ctr τ)), (35, (⟨i35, o35, c35, 0⟩ : Ctr τ)), (36, (⟨i36, o36, c36, 0⟩ : Ctr τ)), (33, (⟨i33, o33, c33, 0⟩ : Ctr τ))]
def M25 (c34 : A34 → Option B34) (c35 : A35 → Option B35) (c36 : A36 → Option B36) (c33 : A33 → Option B33) : A25 → Option B25 := fun ⟨⟨a'_0, ⟨a'_1, ⟨a'_2, a'_3⟩⟩⟩, ⟨⟨b'_0, ⟨b'_1, ⟨b'_2, b'_3⟩⟩⟩, ()⟩⟩ => ((c34 (a'_0, (b'_0, ()))).bind fun ⟨y0, ()⟩ => ((c35 (a'_1, (b'_1, ()))).bind fun ⟨y1, ()⟩ => ((c36 (a'_2, (b'_2, ()))).bind fun ⟨y2, ()⟩ => ((c35 (a'_3, (b'_3, ()))).bind fun ⟨y3, ()⟩ => ((c33 ([y0, y1, y2, y3], ())).bind fun ⟨y4, ()⟩ => (some (y4, ())))))))
def N25 : A25 → Option B25 := M25 N34 N35 N36 N33
def C25 : Ctr τ := ⟨i25, o25, N25, 0⟩
theorem g25 : GOK κ Try.prog (G25 N34 N35 N36 N33) := (gok_cons s34 (keeps0 rfl) (gok_cons s35 (keeps0 rfl) (gok_cons s36 (keeps0 rfl) (gok_cons s33 (keeps0 rfl) gok_nil))))
theorem lall25 : ∀ Z : Zn, Z.rl = C25.o.keeps → Try.f25.ntmps ≤ Z.nt → ∀ p ∈ loops 0 (bodyOf Try.f25), ∀ C, (tabL []) p.1 = some C → LoopOK κ Try.prog Z p.2 C := fun Z h n => fun p hp => (by cases (show p ∈ ([] : List (Nat × Code)) from hp))
theorem e25 : ∀ (c34 : A34 → Option B34) (c35 : A35 → Option B35) (c36 : A36 → Option B36) (c33 : A33 → Option B33) x, M25 c34 c35 c36 c33 x = fnE Try.prog κ (G25 c34 c35 c36 c33) (tabL []) Try.f25 i25 o25 x := fun c34 c35 c36 c33 x => by kernel_rfl
theorem s25 : Sound κ Try.prog C25 25 := fn_sound (S := (tabL [])) (F := Try.f25) (code := bodyOf Try.f25) (by kernel_rfl) g25 Try.func25 (by kernel_rfl) (by kernel_rfl) (by kernel_rfl) lall25 (by kernel_rfl) (by kernel_rfl) fun x y h => (e25 N34 N35 N36 N33 x).symm.trans h
end Go.Proofs.Ytdcfpgkgaaobhaa.E
namespace Go.Proofs.Ytdcfpgkgaaobhaa.E
open Go
set_option linter.unusedVariables false
set_option maxRecDepth 100000
abbrev A8 : Type := (Unit)
abbrev B8 : Type := ((List T30 × (Int × Unit)) × Unit)
def i8 : Fr τ A8 := .nil
def o8 : Fr τ B8 := (.ptr 1000 none 50 (.own 30 (.val (.int .i64) .nil)) .nil)
def G8 : Nat → Option (Ctr τ) := tabG []
def M8 : A8 → Option B8 := fun () => (some (([], (0, ())), ()))
def N8 : A8 → Option B8 := M8
def C8 : Ctr τ := ⟨i8, o8, N8, 0⟩
theorem g8 : GOK κ Try.prog (G8) := gok_nil
theorem lall8 : ∀ Z : Zn, Z.rl = C8.o.keeps → Try.f8.ntmps ≤ Z.nt → ∀ p ∈ loops 0 (bodyOf Try.f8), ∀ C, (tabL []) p.1 = some C → LoopOK κ Try.prog Z p.2 C := fun Z h n => fun p hp => (by cases (show p ∈ ([] : List (Nat × Code)) from hp))
theorem e8 : ∀ x, M8 x = fnE Try.prog κ (G8) (tabL []) Try.f8 i8 o8 x := fun x => by kernel_rfl
theorem s8 : Sound κ Try.prog C8 8 := fn_sound (S := (tabL [])) (F := Try.f8) (code := bodyOf Try.f8) (by kernel_rfl) g8 Try.func8 (by kernel_rfl) (by kernel_rfl) (by kernel_rfl) lall8 (by kernel_rfl) (by kernel_rfl) fun x y h => (e8 x).symm.trans h
end Go.Proofs.Ytdcfpgkgaaobhaa.E
namespace Go.Proofs.Ytdcfpgkgaaobhaa.E
open Go
set_option linter.unusedVariables false
set_option maxRecDepth 100000
abbrev A21 : Type := ((List T30) × Unit)
abbrev B21 : Type := (Int × (List T30) × Unit)
def i21 : Fr τ A21 := (.own 0 30 .nil)
def o21 : Fr τ B21 := (.val 1000 (.int .i64) (.own 0 30 .nil))
def G21 : Nat → Option (Ctr τ) := tabG []
def M21 : A21 → Option B21 := fun ⟨q', ()⟩ => (let v0 : Int := ↑(List.length q'); some (v0, (q', ())))
def N21 : A21 → Option B21 := M21
def C21 : Ctr τ := ⟨i21, o21, N21, 0⟩
theorem g21 : GOK κ Try.prog (G21) := gok_nil
theorem lall21 : ∀ Z : Zn, Z.rl = C21.o.keeps → Try.f21.ntmps ≤ Z.nt → ∀ p ∈ loops 0 (bodyOf Try.f21), ∀ C, (tabL []) p.1 = some C → LoopOK κ Try.prog Z p.2 C := fun Z h n => fun p hp => (by cases (show p ∈ ([] : List (Nat × Code)) from hp))
theorem e21 : ∀ x, M21 x = fnE Try.prog κ (G21) (tabL []) Try.f21 i21 o21 x := fun x => by kernel_rfl
theorem s21 : Sound κ Try.prog C21 21 := fn_sound (S := (tabL [])) (F := Try.f21) (code := bodyOf Try.f21) (by kernel_rfl) g21 Try.func21 (by kernel_rfl) (by kernel_rfl) (by kernel_rfl) lall21 (by kernel_rfl) (by kernel_rfl) fun x y h => (e21 x).symm.trans h
end Go.Proofs.Ytdcfpgkgaaobhaa.E
namespace Go.Proofs.Ytdcfpgkgaaobhaa.E
open Go
set_option linter.unusedVariables false
set_option maxRecDepth 100000
abbrev A73 : Type := ((List T30) × Int × Int × Unit)
abbrev B73 : Type := (Bool × (List T30) × Unit)
def i73 : Fr τ A73 := (.own 0 30 (.val 1 (.int .i64) (.val 2 (.int .i64) .nil)))
def o73 : Fr τ B73 := (.val 1000 .bool (.own 0 30 .nil))
def G73 (c25 : A25 → Option B25) : Nat → Option (Ctr τ) := tabG [(25, (⟨i25, o25, c25, 0⟩ : Ctr τ))]
def M73 (c25 : A25 → Option B25) : A73 → Option B73 := fun ⟨q', ⟨i', ⟨j', ()⟩⟩⟩ => (let v0 : Int := ↑(List.length q'); (bif decide (0 ≤ i') && decide (i' < v0) then some () else none).bind fun () => ((q'[Int.toNat i']?).bind fun ⟨y1_0, ⟨y1_1, ⟨y1_2, y1_3⟩⟩⟩ => ((bif decide (0 ≤ j') && decide (j' < v0) then some () else none).bind fun () => ((q'[Int.toNat j']?).bind fun ⟨y3_0, ⟨y3_1, ⟨y3_2, y3_3⟩⟩⟩ => ((c25 ((y1_0, (y1_1, (y1_2, y1_3))), ((y3_0, (y3_1, (y3_2, y3_3))), ()))).bind fun ⟨y4, ()⟩ => (some (decide (y4 < 0), (q', ()))))))))
def N73 : A73 → Option B73 := M73 N25
def C73 : Ctr τ := ⟨i73, o73, N73, 0⟩
theorem g73 : GOK κ Try.prog (G73 N25) := (gok_cons s25 (keeps0 rfl) gok_nil)
theorem lall73 : ∀ Z : Zn, Z.rl = C73.o.keeps → Try.f73.ntmps ≤ Z.nt → ∀ p ∈ loops 0 (bodyOf Try.f73), ∀ C, (tabL []) p.1 = some C → LoopOK κ Try.prog Z p.2 C := fun Z h n => fun p hp => (by cases (show p ∈ ([] : List (Nat × Code)) from hp))
theorem e73 : ∀ (c25 : A25 → Option B25) x, M73 c25 x = fnE Try.prog κ (G73 c25) (tabL []) Try.f73 i73 o73 x := fun c25 x => by kernel_rfl
theorem s73 : Sound κ Try.prog C73 73 := fn_sound (S := (tabL [])) (F := Try.f73) (code := bodyOf Try.f73) (by kernel_rfl) g73 Try.func73 (by kernel_rfl) (by kernel_rfl) (by kernel_rfl) lall73 (by kernel_rfl) (by kernel_rfl) fun x y h => (e73 N25 x).symm.trans h
end Go.Proofs.Ytdcfpgkgaaobhaa.E
namespace Go.Proofs.Ytdcfpgkgaaobhaa.E
open Go
set_option linter.unusedVariables false
set_option maxRecDepth 100000
abbrev A74 : Type := ((List T30) × Int × Int × Unit)
abbrev B74 : Type := ((List T30) × Unit)
def i74 : Fr τ A74 := (.own 0 30 (.val 1 (.int .i64) (.val 2 (.int .i64) .nil)))
def o74 : Fr τ B74 := (.own 0 30 .nil)
def G74 : Nat → Option (Ctr τ) := tabG []
def M74 : A74 → Option B74 := fun ⟨q', ⟨i', ⟨j', ()⟩⟩⟩ => (let v0 : Int := ↑(List.length q'); (bif decide (0 ≤ j') && decide (j' < v0) then some () else none).bind fun () => ((q'[Int.toNat j']?).bind fun ⟨y1_0, ⟨y1_1, ⟨y1_2, y1_3⟩⟩⟩ => ((bif decide (0 ≤ i') && decide (i' < v0) then some () else none).bind fun () => ((q'[Int.toNat i']?).bind fun ⟨y3_0, ⟨y3_1, ⟨y3_2, y3_3⟩⟩⟩ => ((bif decide (0 ≤ i') && decide (i' < v0) then some () else none).bind fun () => ((((q'[Int.toNat i']?).bind fun ⟨y45_0, ⟨y45_1, ⟨y45_2, y45_3⟩⟩⟩ => (some (y1_0, (y1_1, (y1_2, y1_3))))) : (Option (Int × (Int × (ByteArray × Int))))).bind fun ⟨y5_0, ⟨y5_1, ⟨y5_2, y5_3⟩⟩⟩ => (let v1 : Int := ↑(List.length (List.set q' (Int.toNat i') (y5_0, y5_1, y5_2, y5_3))); (bif decide (0 ≤ j') && decide (j' < v1) then some () else none).bind fun () => (((((List.set q' (Int.toNat i') (y5_0, y5_1, y5_2, y5_3))[Int.toNat j']?).bind fun ⟨y47_0, ⟨y47_1, ⟨y47_2, y47_3⟩⟩⟩ => (some (y3_0, (y3_1, (y3_2, y3_3))))) : (Option (Int × (Int × (ByteArray × Int))))).bind fun ⟨y7_0, ⟨y7_1, ⟨y7_2, y7_3⟩⟩⟩ => (some (List.set (List.set q' (Int.toNat i') (y5_0, y5_1, y5_2, y5_3)) (Int.toNat j') (y7_0, y7_1, y7_2, y7_3), ()))))))))))
def N74 : A74 → Option B74 := M74
def C74 : Ctr τ := ⟨i74, o74, N74, 0⟩
theorem g74 : GOK κ Try.prog (G74) := gok_nil
theorem lall74 : ∀ Z : Zn, Z.rl = C74.o.keeps → Try.f74.ntmps ≤ Z.nt → ∀ p ∈ loops 0 (bodyOf Try.f74), ∀ C, (tabL []) p.1 = some C → LoopOK κ Try.prog Z p.2 C := fun Z h n => fun p hp => (by cases (show p ∈ ([] : List (Nat × Code)) from hp))
theorem e74 : ∀ x, M74 x = fnE Try.prog κ (G74) (tabL []) Try.f74 i74 o74 x := fun x => by kernel_rfl
theorem s74 : Sound κ Try.prog C74 74 := fn_sound (S := (tabL [])) (F := Try.f74) (code := bodyOf Try.f74) (by kernel_rfl) g74 Try.func74 (by kernel_rfl) (by kernel_rfl) (by kernel_rfl) lall74 (by kernel_rfl) (by kernel_rfl) fun x y h => (e74 x).symm.trans h
end Go.Proofs.Ytdcfpgkgaaobhaa.E
namespace Go.Proofs.Ytdcfpgkgaaobhaa.E
open Go
set_option linter.unusedVariables false
set_option maxRecDepth 100000
abbrev A30 : Type := ((List T30 × (Int × Unit)) × Int × Unit)
abbrev B30 : Type := ((List T30 × (Int × Unit)) × Unit)
def i30 : Fr τ A30 := (.ptr 0 (some 52) 50 (.own 30 (.val (.int .i64) .nil)) (.val 1 (.int .i64) .nil))
def o30 : Fr τ B30 := (.ptr 0 (some 52) 50 (.own 30 (.val (.int .i64) .nil)) .nil)
def G30 (c73 : A73 → Option B73) (c74 : A74 → Option B74) : Nat → Option (Ctr τ) := tabG [(73, (⟨i73, o73, c73, 0⟩ : Ctr τ)), (74, (⟨i74, o74, c74, 0⟩ : Ctr τ))]
abbrev LA30_0 : Type := ((List T30 × (Int × Unit)) × Int × Unit)
abbrev LB30_0 : Type := ((List T30 × (Int × Unit)) × Unit)
def li30_0 : Fr τ LA30_0 := (.ptr 0 (some 52) 50 (.own 30 (.val (.int .i64) .nil)) (.val 1 (.int .i64) .nil))
def lo30_0 : Ot τ LB30_0 := .one (.exit 0) (.ptr 0 (some 52) 50 (.own 30 (.val (.int .i64) .nil)) .nil)
def Q30_0 (c73 : A73 → Option B73) (c74 : A74 → Option B74) : LA30_0 → Option (LA30_0 ⊕ LB30_0) := fun ⟨⟨h'_0, ⟨h'_1, ()⟩⟩, ⟨j', ()⟩⟩ => (let v0 : Int := j' - 1; let v1 : Int := IntKind.wrap IntKind.i64 v0; let v2 : Int := Int.tdiv v1 2; let v3 : Int := IntKind.wrap IntKind.i64 v2; bif v3 == j' then (some (.inr ((h'_0, (h'_1, ())), ()))) else ((c73 (h'_0, (j', (v3, ())))).bind fun ⟨y1_0, ⟨y1_1, ()⟩⟩ => (bif !y1_0 then (some (.inr ((y1_1, (h'_1, ())), ()))) else ((c74 (y1_1, (v3, (j', ())))).bind fun ⟨y3, ()⟩ => (some (.inl ((y3, (h'_1, ())), (v3, ()))))))))
def R30_0 : LA30_0 → Option (LA30_0 ⊕ LB30_0) := Q30_0 N73 N74
def L30_0 : Lc τ := ⟨li30_0, itrs R30_0, lo30_0⟩
def M30 (c73 : A73 → Option B73) (c74 : A74 → Option B74) (l30_0 : LA30_0 → Option LB30_0) : A30 → Option B30 := fun ⟨⟨h'_0, ⟨h'_1, ()⟩⟩, ⟨j', ()⟩⟩ => ((l30_0 ((h'_0, (h'_1, ())), (j', ()))).bind fun ⟨⟨y0_0, ⟨y0_1, ()⟩⟩, ()⟩ => (some ((y0_0, (y0_1, ())), ())))
def N30 : A30 → Option B30 := M30 N73 N74 (itrs R30_0)
def C30 : Ctr τ := ⟨i30, o30, N30, 0⟩
theorem g30 : GOK κ Try.prog (G30 N73 N74) := (gok_cons s73 (keeps0 rfl) (gok_cons s74 (keeps0 rfl) gok_nil))
theorem le30_0 : ∀ (c73 : A73 → Option B73) (c74 : A74 → Option B74) x, Q30_0 c73 c74 x = run Try.prog κ (G30 c73 c74) (tabL []) 0 (loopAt Try.f30 0) (li30_0.build x) (rnd li30_0 lo30_0) := fun c73 c74 x => by kernel_rfl
theorem linner30_0 : ∀ Z : Zn, Z.rl = [0] → 23 ≤ Z.nt → ∀ p ∈ loops 0 (loopAt Try.f30 0), ∀ C, (tabL []) p.1 = some C → LoopOK κ Try.prog Z p.2 C := fun Z h n => fun p hp => (by cases (show p ∈ ([] : List (Nat × Code)) from hp))
theorem lk30_0 : ∀ Z : Zn, Z.rl = [0] → 23 ≤ Z.nt → LoopOK κ Try.prog Z (loopAt Try.f30 0) L30_0 := fun Z h n => loop_ok (S := (tabL [])) R30_0 (by kernel_rfl) g30 (by rw [h]; exact dsts_mono n _ (by kernel_rfl)) (linner30_0 Z h n) (by kernel_rfl) (by kernel_rfl) (le30_0 N73 N74) itrs_rounds
theorem lall30 : ∀ Z : Zn, Z.rl = C30.o.keeps → Try.f30.ntmps ≤ Z.nt → ∀ p ∈ loops 0 (bodyOf Try.f30), ∀ C, (tabL [(0, L30_0)]) p.1 = some C → LoopOK κ Try.prog Z p.2 C := fun Z h n => all_loops [(0, loopAt Try.f30 0)] (by kernel_rfl) (all_cons (fun C hC => (Option.some.inj hC : L30_0 = C) ▸ lk30_0 Z h n) (fun _ h => by cases h))
theorem e30 : ∀ (c73 : A73 → Option B73) (c74 : A74 → Option B74) (l30_0 : LA30_0 → Option LB30_0) x, M30 c73 c74 l30_0 x = fnE Try.prog κ (G30 c73 c74) (tabL [(0, (⟨li30_0, l30_0, lo30_0⟩ : Lc τ))]) Try.f30 i30 o30 x := fun c73 c74 l30_0 x => by kernel_rfl
theorem s30 : Sound κ Try.prog C30 30 := fn_sound (S := (tabL [(0, L30_0)])) (F := Try.f30) (code := bodyOf Try.f30) (by kernel_rfl) g30 Try.func30 (by kernel_rfl) (by kernel_rfl) (by kernel_rfl) lall30 (by kernel_rfl) (by kernel_rfl) fun x y h => (e30 N73 N74 (itrs R30_0) x).symm.trans h
end Go.Proofs.Ytdcfpgkgaaobhaa.E
namespace Go.Proofs.Ytdcfpgkgaaobhaa.E
open Go
set_option linter.unusedVariables false
set_option maxRecDepth 100000
abbrev A76 : Type := ((List T30 × (Int × Unit)) × T30 × Unit)
abbrev B76 : Type := ((List T30 × (Int × Unit)) × Unit)
def i76 : Fr τ A76 := (.ptr 0 none 50 (.own 30 (.val (.int .i64) .nil)) (.val 1 (.box 30 30) .nil))
def o76 : Fr τ B76 := (.ptr 0 none 50 (.own 30 (.val (.int .i64) .nil)) .nil)
def G76 : Nat → Option (Ctr τ) := tabG []
def M76 : A76 → Option B76 := fun ⟨⟨q'_0, ⟨q'_1, ()⟩⟩, ⟨⟨x'_0, ⟨x'_1, ⟨x'_2, x'_3⟩⟩⟩, ()⟩⟩ => ((bif decide ((List.length q'_0 + 1) * 40 ≤ 210000000000000) then some () else none).bind fun () => (some ((q'_0 ++ [(x'_0, x'_1, x'_2, x'_3)], (q'_1, ())), ())))
def N76 : A76 → Option B76 := M76
def C76 : Ctr τ := ⟨i76, o76, N76, 0⟩
theorem g76 : GOK κ Try.prog (G76) := gok_nil
theorem lall76 : ∀ Z : Zn, Z.rl = C76.o.keeps → Try.f76.ntmps ≤ Z.nt → ∀ p ∈ loops 0 (bodyOf Try.f76), ∀ C, (tabL []) p.1 = some C → LoopOK κ Try.prog Z p.2 C := fun Z h n => fun p hp => (by cases (show p ∈ ([] : List (Nat × Code)) from hp))
theorem e76 : ∀ x, M76 x = fnE Try.prog κ (G76) (tabL []) Try.f76 i76 o76 x := fun x => by kernel_rfl
theorem s76 : Sound κ Try.prog C76 76 := fn_sound (S := (tabL [])) (F := Try.f76) (code := bodyOf Try.f76) (by kernel_rfl) g76 Try.func76 (by kernel_rfl) (by kernel_rfl) (by kernel_rfl) lall76 (by kernel_rfl) (by kernel_rfl) fun x y h => (e76 x).symm.trans h
end Go.Proofs.Ytdcfpgkgaaobhaa.E
namespace Go.Proofs.Ytdcfpgkgaaobhaa.E
open Go
set_option linter.unusedVariables false
set_option maxRecDepth 100000
abbrev A22 : Type := ((List T30 × (Int × Unit)) × T30 × Unit)
abbrev B22 : Type := ((List T30 × (Int × Unit)) × Unit)
def i22 : Fr τ A22 := (.ptr 0 (some 52) 50 (.own 30 (.val (.int .i64) .nil)) (.val 1 (.box 30 30) .nil))
def o22 : Fr τ B22 := (.ptr 0 (some 52) 50 (.own 30 (.val (.int .i64) .nil)) .nil)
def G22 (c30 : A30 → Option B30) (c76 : A76 → Option B76) (c21 : A21 → Option B21) : Nat → Option (Ctr τ) := tabG [(30, (⟨i30, o30, c30, 0⟩ : Ctr τ)), (76, (⟨i76, o76, c76, 0⟩ : Ctr τ)), (21, (⟨i21, o21, c21, 0⟩ : Ctr τ))]
def M22 (c30 : A30 → Option B30) (c76 : A76 → Option B76) (c21 : A21 → Option B21) : A22 → Option B22 := fun ⟨⟨h'_0, ⟨h'_1, ()⟩⟩, ⟨⟨x'_0, ⟨x'_1, ⟨x'_2, x'_3⟩⟩⟩, ()⟩⟩ => ((c76 ((h'_0, (h'_1, ())), ((x'_0, (x'_1, (x'_2, x'_3))), ()))).bind fun ⟨⟨y0_0, ⟨y0_1, ()⟩⟩, ()⟩ => ((c21 (y0_0, ())).bind fun ⟨y1_0, ⟨y1_1, ()⟩⟩ => (let v0 : Int := y1_0 - 1; let v1 : Int := IntKind.wrap IntKind.i64 v0; (c30 ((y1_1, (y0_1, ())), (v1, ()))).bind fun ⟨⟨y2_0, ⟨y2_1, ()⟩⟩, ()⟩ => (some ((y2_0, (y2_1, ())), ())))))
def N22 : A22 → Option B22 := M22 N30 N76 N21
def C22 : Ctr τ := ⟨i22, o22, N22, 0⟩
theorem g22 : GOK κ Try.prog (G22 N30 N76 N21) := (gok_cons s30 (keeps0 rfl) (gok_cons s76 (keeps0 rfl) (gok_cons s21 (keeps0 rfl) gok_nil)))
theorem lall22 : ∀ Z : Zn, Z.rl = C22.o.keeps → Try.f22.ntmps ≤ Z.nt → ∀ p ∈ loops 0 (bodyOf Try.f22), ∀ C, (tabL []) p.1 = some C → LoopOK κ Try.prog Z p.2 C := fun Z h n => fun p hp => (by cases (show p ∈ ([] : List (Nat × Code)) from hp))
theorem e22 : ∀ (c30 : A30 → Option B30) (c76 : A76 → Option B76) (c21 : A21 → Option B21) x, M22 c30 c76 c21 x = fnE Try.prog κ (G22 c30 c76 c21) (tabL []) Try.f22 i22 o22 x := fun c30 c76 c21 x => by kernel_rfl
theorem s22 : Sound κ Try.prog C22 22 := fn_sound (S := (tabL [])) (F := Try.f22) (code := bodyOf Try.f22) (by kernel_rfl) g22 Try.func22 (by kernel_rfl) (by kernel_rfl) (by kernel_rfl) lall22 (by kernel_rfl) (by kernel_rfl) fun x y h => (e22 N30 N76 N21 x).symm.trans h
end Go.Proofs.Ytdcfpgkgaaobhaa.E
namespace Go.Proofs.Ytdcfpgkgaaobhaa.E
open Go
set_option linter.unusedVariables false
set_option maxRecDepth 100000
abbrev A9 : Type := ((List T30 × (Int × Unit)) × Int × Int × ByteArray × Unit)
abbrev B9 : Type := (Int × Int × (List T30 × (Int × Unit)) × Unit)
def i9 : Fr τ A9 := (.ptr 0 none 50 (.own 30 (.val (.int .i64) .nil)) (.val 1 (.int .i64) (.val 2 (.int .i64) (.val 3 .str .nil))))
def o9 : Fr τ B9 := (.val 1000 (.int .i64) (.val 1001 (.int .i64) (.ptr 0 none 50 (.own 30 (.val (.int .i64) .nil)) .nil)))
def G9 (c21 : A21 → Option B21) (c22 : A22 → Option B22) : Nat → Option (Ctr τ) := tabG [(21, (⟨i21, o21, c21, 0⟩ : Ctr τ)), (22, (⟨i22, o22, c22, 0⟩ : Ctr τ))]
def M9 (c21 : A21 → Option B21) (c22 : A22 → Option B22) : A9 → Option B9 := fun ⟨⟨a'_0, ⟨a'_1, ()⟩⟩, ⟨day', ⟨kind', ⟨key', ()⟩⟩⟩⟩ => (bif decide (kind' < 0) then (some (0, (1, ((a'_0, (a'_1, ())), ())))) else (bif decide (kind' > 9) then (some (0, (1, ((a'_0, (a'_1, ())), ())))) else (let v0 : Int := ↑(ByteArray.size key'); bif decide (v0 > 32) then (some (0, (1, ((a'_0, (a'_1, ())), ())))) else (bif decide (day' < 0) then (some (0, (221, ((a'_0, (a'_1, ())), ())))) else (bif decide (day' > 1000000) then (some (0, (221, ((a'_0, (a'_1, ())), ())))) else ((c21 (a'_0, ())).bind fun ⟨y5_0, ⟨y5_1, ()⟩⟩ => (bif decide (y5_0 ≥ 4096) then (some (0, (3, ((y5_1, (a'_1, ())), ())))) else (let v1 : Int := a'_1 + 1; let v2 : Int := IntKind.wrap IntKind.i64 v1; (c22 ((y5_1, (v2, ())), ((day', (kind', (key', v2))), ()))).bind fun ⟨⟨y7_0, ⟨y7_1, ()⟩⟩, ()⟩ => (some (y7_1, (0, ((y7_0, (y7_1, ())), ()))))))))))))
def N9 : A9 → Option B9 := M9 N21 N22
def C9 : Ctr τ := ⟨i9, o9, N9, 0⟩
theorem g9 : GOK κ Try.prog (G9 N21 N22) := (gok_cons s21 (keeps0 rfl) (gok_cons s22 (keeps0 rfl) gok_nil))
theorem lall9 : ∀ Z : Zn, Z.rl = C9.o.keeps → Try.f9.ntmps ≤ Z.nt → ∀ p ∈ loops 0 (bodyOf Try.f9), ∀ C, (tabL []) p.1 = some C → LoopOK κ Try.prog Z p.2 C := fun Z h n => fun p hp => (by cases (show p ∈ ([] : List (Nat × Code)) from hp))
theorem e9 : ∀ (c21 : A21 → Option B21) (c22 : A22 → Option B22) x, M9 c21 c22 x = fnE Try.prog κ (G9 c21 c22) (tabL []) Try.f9 i9 o9 x := fun c21 c22 x => by kernel_rfl
theorem s9 : Sound κ Try.prog C9 9 := fn_sound (S := (tabL [])) (F := Try.f9) (code := bodyOf Try.f9) (by kernel_rfl) g9 Try.func9 (by kernel_rfl) (by kernel_rfl) (by kernel_rfl) lall9 (by kernel_rfl) (by kernel_rfl) fun x y h => (e9 N21 N22 x).symm.trans h
end Go.Proofs.Ytdcfpgkgaaobhaa.E
namespace Go.Proofs.Ytdcfpgkgaaobhaa.E
open Go
set_option linter.unusedVariables false
set_option maxRecDepth 100000
abbrev A11 : Type := ((List T30 × (Int × Unit)) × Unit)
abbrev B11 : Type := (Int × (List T30 × (Int × Unit)) × Unit)
def i11 : Fr τ A11 := (.ptr 0 none 50 (.own 30 (.val (.int .i64) .nil)) .nil)
def o11 : Fr τ B11 := (.val 1000 (.int .i64) (.ptr 0 none 50 (.own 30 (.val (.int .i64) .nil)) .nil))
def G11 (c21 : A21 → Option B21) : Nat → Option (Ctr τ) := tabG [(21, (⟨i21, o21, c21, 0⟩ : Ctr τ))]
def M11 (c21 : A21 → Option B21) : A11 → Option B11 := fun ⟨⟨a'_0, ⟨a'_1, ()⟩⟩, ()⟩ => ((c21 (a'_0, ())).bind fun ⟨y0_0, ⟨y0_1, ()⟩⟩ => (some (y0_0, ((y0_1, (a'_1, ())), ()))))
def N11 : A11 → Option B11 := M11 N21
def C11 : Ctr τ := ⟨i11, o11, N11, 0⟩
theorem g11 : GOK κ Try.prog (G11 N21) := (gok_cons s21 (keeps0 rfl) gok_nil)
theorem lall11 : ∀ Z : Zn, Z.rl = C11.o.keeps → Try.f11.ntmps ≤ Z.nt → ∀ p ∈ loops 0 (bodyOf Try.f11), ∀ C, (tabL []) p.1 = some C → LoopOK κ Try.prog Z p.2 C := fun Z h n => fun p hp => (by cases (show p ∈ ([] : List (Nat × Code)) from hp))
theorem e11 : ∀ (c21 : A21 → Option B21) x, M11 c21 x = fnE Try.prog κ (G11 c21) (tabL []) Try.f11 i11 o11 x := fun c21 x => by kernel_rfl
theorem s11 : Sound κ Try.prog C11 11 := fn_sound (S := (tabL [])) (F := Try.f11) (code := bodyOf Try.f11) (by kernel_rfl) g11 Try.func11 (by kernel_rfl) (by kernel_rfl) (by kernel_rfl) lall11 (by kernel_rfl) (by kernel_rfl) fun x y h => (e11 N21 x).symm.trans h
end Go.Proofs.Ytdcfpgkgaaobhaa.E
namespace Go.Proofs.Ytdcfpgkgaaobhaa.E
open Go
set_option linter.unusedVariables false
set_option maxRecDepth 100000
abbrev A18 : Type := ((List T30 × (Int × Unit)) × Unit)
abbrev B18 : Type := ((Int × (Int × (ByteArray × Int))) × Bool × (List T30 × (Int × Unit)) × Unit)
def i18 : Fr τ A18 := (.ptr 0 none 50 (.own 30 (.val (.int .i64) .nil)) .nil)
def o18 : Fr τ B18 := (.val 1000 (.pair (.int .i64) (.pair (.int .i64) (.pair .str (.int .i64)))) (.val 1001 .bool (.ptr 0 none 50 (.own 30 (.val (.int .i64) .nil)) .nil)))
def G18 (c11 : A11 → Option B11) : Nat → Option (Ctr τ) := tabG [(11, (⟨i11, o11, c11, 0⟩ : Ctr τ))]
def M18 (c11 : A11 → Option B11) : A18 → Option B18 := fun ⟨⟨a'_0, ⟨a'_1, ()⟩⟩, ()⟩ => ((c11 ((a'_0, (a'_1, ())), ())).bind fun ⟨y0_0, ⟨⟨y0_1, ⟨y0_2, ()⟩⟩, ()⟩⟩ => (bif y0_0 == 0 then (some ((0, (0, ({ data := #[] }, 0))), (false, ((y0_1, (y0_2, ())), ())))) else (let v0 : Int := ↑(List.length y0_1); (bif true && decide (0 < v0) then some () else none).bind fun () => ((y0_1[0]?).bind fun ⟨y3_0, ⟨y3_1, ⟨y3_2, y3_3⟩⟩⟩ => (some ((y3_0, (y3_1, (y3_2, y3_3))), (true, ((y0_1, (y0_2, ())), ()))))))))
def N18 : A18 → Option B18 := M18 N11
def C18 : Ctr τ := ⟨i18, o18, N18, 0⟩
theorem g18 : GOK κ Try.prog (G18 N11) := (gok_cons s11 (keeps0 rfl) gok_nil)
theorem lall18 : ∀ Z : Zn, Z.rl = C18.o.keeps → Try.f18.ntmps ≤ Z.nt → ∀ p ∈ loops 0 (bodyOf Try.f18), ∀ C, (tabL []) p.1 = some C → LoopOK κ Try.prog Z p.2 C := fun Z h n => fun p hp => (by cases (show p ∈ ([] : List (Nat × Code)) from hp))
theorem e18 : ∀ (c11 : A11 → Option B11) x, M18 c11 x = fnE Try.prog κ (G18 c11) (tabL []) Try.f18 i18 o18 x := fun c11 x => by kernel_rfl
theorem s18 : Sound κ Try.prog C18 18 := fn_sound (S := (tabL [])) (F := Try.f18) (code := bodyOf Try.f18) (by kernel_rfl) g18 Try.func18 (by kernel_rfl) (by kernel_rfl) (by kernel_rfl) lall18 (by kernel_rfl) (by kernel_rfl) fun x y h => (e18 N11 x).symm.trans h
end Go.Proofs.Ytdcfpgkgaaobhaa.E
namespace Go.Proofs.Ytdcfpgkgaaobhaa.E
open Go
set_option linter.unusedVariables false
set_option maxRecDepth 100000
abbrev A37 : Type := ((List T30 × (Int × Unit)) × Int × Int × Unit)
abbrev B37 : Type := (Bool × (List T30 × (Int × Unit)) × Unit)
def i37 : Fr τ A37 := (.ptr 0 (some 52) 50 (.own 30 (.val (.int .i64) .nil)) (.val 1 (.int .i64) (.val 2 (.int .i64) .nil)))
def o37 : Fr τ B37 := (.val 1000 .bool (.ptr 0 (some 52) 50 (.own 30 (.val (.int .i64) .nil)) .nil))
def G37 (c73 : A73 → Option B73) (c74 : A74 → Option B74) : Nat → Option (Ctr τ) := tabG [(73, (⟨i73, o73, c73, 0⟩ : Ctr τ)), (74, (⟨i74, o74, c74, 0⟩ : Ctr τ))]
abbrev LA37_0 : Type := ((List T30 × (Int × Unit)) × Int × Int × Int × Unit)
abbrev LB37_0 : Type := ((List T30 × (Int × Unit)) × Int × Int × Unit)
def li37_0 : Fr τ LA37_0 := (.ptr 0 (some 52) 50 (.own 30 (.val (.int .i64) .nil)) (.val 1 (.int .i64) (.val 2 (.int .i64) (.val 7 (.int .i64) .nil))))
def lo37_0 : Ot τ LB37_0 := .one (.exit 0) (.ptr 0 (some 52) 50 (.own 30 (.val (.int .i64) .nil)) (.val 1 (.int .i64) (.val 7 (.int .i64) .nil)))
def Q37_0 (c73 : A73 → Option B73) (c74 : A74 → Option B74) : LA37_0 → Option (LA37_0 ⊕ LB37_0) := fun ⟨⟨h'_0, ⟨h'_1, ()⟩⟩, ⟨i0', ⟨n', ⟨i', ()⟩⟩⟩⟩ => (let v0 : Int := 2 * i'; let v1 : Int := IntKind.wrap IntKind.i64 v0; let v2 : Int := v1 + 1; let v3 : Int := IntKind.wrap IntKind.i64 v2; bif decide (v3 ≥ n') then (some (.inr ((h'_0, (h'_1, ())), (i0', (i', ()))))) else (bif decide (v3 < 0) then (some (.inr ((h'_0, (h'_1, ())), (i0', (i', ()))))) else (let v4 : Int := v3 + 1; let v5 : Int := IntKind.wrap IntKind.i64 v4; bif decide (v5 < n') then ((c73 (h'_0, (v5, (v3, ())))).bind fun ⟨y3_0, ⟨y3_1, ()⟩⟩ => (bif y3_0 then ((c73 (y3_1, (v5, (i', ())))).bind fun ⟨y5_0, ⟨y5_1, ()⟩⟩ => (bif !y5_0 then (some (.inr ((y5_1, (h'_1, ())), (i0', (i', ()))))) else ((c74 (y5_1, (i', (v5, ())))).bind fun ⟨y7, ()⟩ => (some (.inl ((y7, (h'_1, ())), (i0', (n', (v5, ()))))))))) else ((c73 (y3_1, (v3, (i', ())))).bind fun ⟨y5_0, ⟨y5_1, ()⟩⟩ => (bif !y5_0 then (some (.inr ((y5_1, (h'_1, ())), (i0', (i', ()))))) else ((c74 (y5_1, (i', (v3, ())))).bind fun ⟨y7, ()⟩ => (some (.inl ((y7, (h'_1, ())), (i0', (n', (v3, ()))))))))))) else ((c73 (h'_0, (v3, (i', ())))).bind fun ⟨y3_0, ⟨y3_1, ()⟩⟩ => (bif !y3_0 then (some (.inr ((y3_1, (h'_1, ())), (i0', (i', ()))))) else ((c74 (y3_1, (i', (v3, ())))).bind fun ⟨y5, ()⟩ => (some (.inl ((y5, (h'_1, ())), (i0', (n', (v3, ()))))))))))))
def R37_0 : LA37_0 → Option (LA37_0 ⊕ LB37_0) := Q37_0 N73 N74
def L37_0 : Lc τ := ⟨li37_0, itrs R37_0, lo37_0⟩
def M37 (c73 : A73 → Option B73) (c74 : A74 → Option B74) (l37_0 : LA37_0 → Option LB37_0) : A37 → Option B37 := fun ⟨⟨h'_0, ⟨h'_1, ()⟩⟩, ⟨i0', ⟨n', ()⟩⟩⟩ => ((l37_0 ((h'_0, (h'_1, ())), (i0', (n', (i0', ()))))).bind fun ⟨⟨y0_0, ⟨y0_1, ()⟩⟩, ⟨y0_2, ⟨y0_3, ()⟩⟩⟩ => (some (decide (y0_3 > y0_2), ((y0_0, (y0_1, ())), ()))))
def N37 : A37 → Option B37 := M37 N73 N74 (itrs R37_0)
def C37 : Ctr τ := ⟨i37, o37, N37, 0⟩
theorem g37 : GOK κ Try.prog (G37 N73 N74) := (gok_cons s73 (keeps0 rfl) (gok_cons s74 (keeps0 rfl) gok_nil))
theorem le37_0 : ∀ (c73 : A73 → Option B73) (c74 : A74 → Option B74) x, Q37_0 c73 c74 x = run Try.prog κ (G37 c73 c74) (tabL []) 0 (loopAt Try.f37 0) (li37_0.build x) (rnd li37_0 lo37_0) := fun c73 c74 x => by kernel_rfl
theorem linner37_0 : ∀ Z : Zn, Z.rl = [0] → 48 ≤ Z.nt → ∀ p ∈ loops 0 (loopAt Try.f37 0), ∀ C, (tabL []) p.1 = some C → LoopOK κ Try.prog Z p.2 C := fun Z h n => fun p hp => (by cases (show p ∈ ([] : List (Nat × Code)) from hp))
theorem lk37_0 : ∀ Z : Zn, Z.rl = [0] → 48 ≤ Z.nt → LoopOK κ Try.prog Z (loopAt Try.f37 0) L37_0 := fun Z h n => loop_ok (S := (tabL [])) R37_0 (by kernel_rfl) g37 (by rw [h]; exact dsts_mono n _ (by kernel_rfl)) (linner37_0 Z h n) (by kernel_rfl) (by kernel_rfl) (le37_0 N73 N74) itrs_rounds
theorem lall37 : ∀ Z : Zn, Z.rl = C37.o.keeps → Try.f37.ntmps ≤ Z.nt → ∀ p ∈ loops 0 (bodyOf Try.f37), ∀ C, (tabL [(0, L37_0)]) p.1 = some C → LoopOK κ Try.prog Z p.2 C := fun Z h n => all_loops [(0, loopAt Try.f37 0)] (by kernel_rfl) (all_cons (fun C hC => (Option.some.inj hC : L37_0 = C) ▸ lk37_0 Z h n) (fun _ h => by cases h))
theorem e37 : ∀ (c73 : A73 → Option B73) (c74 : A74 → Option B74) (l37_0 : LA37_0 → Option LB37_0) x, M37 c73 c74 l37_0 x = fnE Try.prog κ (G37 c73 c74) (tabL [(0, (⟨li37_0, l37_0, lo37_0⟩ : Lc τ))]) Try.f37 i37 o37 x := fun c73 c74 l37_0 x => by kernel_rfl
theorem s37 : Sound κ Try.prog C37 37 := fn_sound (S := (tabL [(0, L37_0)])) (F := Try.f37) (code := bodyOf Try.f37) (by kernel_rfl) g37 Try.func37 (by kernel_rfl) (by kernel_rfl) (by kernel_rfl) lall37 (by kernel_rfl) (by kernel_rfl) fun x y h => (e37 N73 N74 (itrs R37_0) x).symm.trans h
end Go.Proofs.Ytdcfpgkgaaobhaa.E
namespace Go.Proofs.Ytdcfpgkgaaobhaa.E
open Go
set_option linter.unusedVariables false
set_option maxRecDepth 100000
abbrev A75 : Type := ((List T30 × (Int × Unit)) × Unit)
abbrev B75 : Type := (T30 × (List T30 × (Int × Unit)) × Unit)
def i75 : Fr τ A75 := (.ptr 0 none 50 (.own 30 (.val (.int .i64) .nil)) .nil)
def o75 : Fr τ B75 := (.val 1000 (.box 30 30) (.ptr 0 none 50 (.own 30 (.val (.int .i64) .nil)) .nil))
def G75 : Nat → Option (Ctr τ) := tabG []
def M75 : A75 → Option B75 := fun ⟨⟨q'_0, ⟨q'_1, ()⟩⟩, ()⟩ => (let v0 : Int := ↑(List.length q'_0); let v1 : Int := v0 - 1; let v2 : Int := IntKind.wrap IntKind.i64 v1; (bif decide (0 ≤ v2) && decide (v2 < v0) then some () else none).bind fun () => ((q'_0[Int.toNat v2]?).bind fun ⟨y1_0, ⟨y1_1, ⟨y1_2, y1_3⟩⟩⟩ => ((bif true && decide (0 ≤ v2) && decide (v2 ≤ v0) then some () else none).bind fun () => ((bif Nat.ble (Int.toNat v2 - 0) (List.length q'_0) then some () else none).bind fun () => (some ((y1_0, (y1_1, (y1_2, y1_3))), ((List.take (Int.toNat v2 - 0) q'_0, (q'_1, ())), ())))))))
def N75 : A75 → Option B75 := M75
def C75 : Ctr τ := ⟨i75, o75, N75, 0⟩
theorem g75 : GOK κ Try.prog (G75) := gok_nil
theorem lall75 : ∀ Z : Zn, Z.rl = C75.o.keeps → Try.f75.ntmps ≤ Z.nt → ∀ p ∈ loops 0 (bodyOf Try.f75), ∀ C, (tabL []) p.1 = some C → LoopOK κ Try.prog Z p.2 C := fun Z h n => fun p hp => (by cases (show p ∈ ([] : List (Nat × Code)) from hp))
theorem e75 : ∀ x, M75 x = fnE Try.prog κ (G75) (tabL []) Try.f75 i75 o75 x := fun x => by kernel_rfl
theorem s75 : Sound κ Try.prog C75 75 := fn_sound (S := (tabL [])) (F := Try.f75) (code := bodyOf Try.f75) (by kernel_rfl) g75 Try.func75 (by kernel_rfl) (by kernel_rfl) (by kernel_rfl) lall75 (by kernel_rfl) (by kernel_rfl) fun x y h => (e75 x).symm.trans h
end Go.Proofs.Ytdcfpgkgaaobhaa.E
namespace Go.Proofs.Ytdcfpgkgaaobhaa.E
open Go
set_option linter.unusedVariables false
set_option maxRecDepth 100000
abbrev A26 : Type := ((List T30 × (Int × Unit)) × Unit)
abbrev B26 : Type := (T30 × (List T30 × (Int × Unit)) × Unit)
def i26 : Fr τ A26 := (.ptr 0 (some 52) 50 (.own 30 (.val (.int .i64) .nil)) .nil)
def o26 : Fr τ B26 := (.val 1000 (.box 30 30) (.ptr 0 (some 52) 50 (.own 30 (.val (.int .i64) .nil)) .nil))
def G26 (c37 : A37 → Option B37) (c75 : A75 → Option B75) (c21 : A21 → Option B21) (c74 : A74 → Option B74) : Nat → Option (Ctr τ) := tabG [(37, (⟨i37, o37, c37, 0⟩ : Ctr τ)), (75, (⟨i75, o75, c75, 0⟩ : Ctr τ)), (21, (⟨i21, o21, c21, 0⟩ : Ctr τ)), (74, (⟨i74, o74, c74, 0⟩ : Ctr τ))]
def M26 (c37 : A37 → Option B37) (c75 : A75 → Option B75) (c21 : A21 → Option B21) (c74 : A74 → Option B74) : A26 → Option B26 := fun ⟨⟨h'_0, ⟨h'_1, ()⟩⟩, ()⟩ => ((c21 (h'_0, ())).bind fun ⟨y0_0, ⟨y0_1, ()⟩⟩ => (let v0 : Int := y0_0 - 1; let v1 : Int := IntKind.wrap IntKind.i64 v0; (c74 (y0_1, (0, (v1, ())))).bind fun ⟨y1, ()⟩ => ((c37 ((y1, (h'_1, ())), (0, (v1, ())))).bind fun ⟨y2_0, ⟨⟨y2_1, ⟨y2_2, ()⟩⟩, ()⟩⟩ => ((c75 ((y2_1, (y2_2, ())), ())).bind fun ⟨⟨y3_0, ⟨y3_1, ⟨y3_2, y3_3⟩⟩⟩, ⟨⟨y3_4, ⟨y3_5, ()⟩⟩, ()⟩⟩ => (some ((y3_0, (y3_1, (y3_2, y3_3))), ((y3_4, (y3_5, ())), ())))))))
def N26 : A26 → Option B26 := M26 N37 N75 N21 N74
def C26 : Ctr τ := ⟨i26, o26, N26, 0⟩
theorem g26 : GOK κ Try.prog (G26 N37 N75 N21 N74) := (gok_cons s37 (keeps0 rfl) (gok_cons s75 (keeps0 rfl) (gok_cons s21 (keeps0 rfl) (gok_cons s74 (keeps0 rfl) gok_nil))))
theorem lall26 : ∀ Z : Zn, Z.rl = C26.o.keeps → Try.f26.ntmps ≤ Z.nt → ∀ p ∈ loops 0 (bodyOf Try.f26), ∀ C, (tabL []) p.1 = some C → LoopOK κ Try.prog Z p.2 C := fun Z h n => fun p hp => (by cases (show p ∈ ([] : List (Nat × Code)) from hp))
theorem e26 : ∀ (c37 : A37 → Option B37) (c75 : A75 → Option B75) (c21 : A21 → Option B21) (c74 : A74 → Option B74) x, M26 c37 c75 c21 c74 x = fnE Try.prog κ (G26 c37 c75 c21 c74) (tabL []) Try.f26 i26 o26 x := fun c37 c75 c21 c74 x => by kernel_rfl
theorem s26 : Sound κ Try.prog C26 26 := fn_sound (S := (tabL [])) (F := Try.f26) (code := bodyOf Try.f26) (by kernel_rfl) g26 Try.func26 (by kernel_rfl) (by kernel_rfl) (by kernel_rfl) lall26 (by kernel_rfl) (by kernel_rfl) fun x y h => (e26 N37 N75 N21 N74 x).symm.trans h
end Go.Proofs.Ytdcfpgkgaaobhaa.E
namespace Go.Proofs.Ytdcfpgkgaaobhaa.E
open Go
set_option linter.unusedVariables false
set_option maxRecDepth 100000
abbrev A13 : Type := ((List T30 × (Int × Unit)) × Int × Unit)
abbrev B13 : Type := ((Int × (Int × (ByteArray × Int))) × Bool × (List T30 × (Int × Unit)) × Unit)
def i13 : Fr τ A13 := (.ptr 0 none 50 (.own 30 (.val (.int .i64) .nil)) (.val 1 (.int .i64) .nil))
def o13 : Fr τ B13 := (.val 1000 (.pair (.int .i64) (.pair (.int .i64) (.pair .str (.int .i64)))) (.val 1001 .bool (.ptr 0 none 50 (.own 30 (.val (.int .i64) .nil)) .nil)))
def G13 (c18 : A18 → Option B18) (c26 : A26 → Option B26) : Nat → Option (Ctr τ) := tabG [(18, (⟨i18, o18, c18, 0⟩ : Ctr τ)), (26, (⟨i26, o26, c26, 0⟩ : Ctr τ))]
def M13 (c18 : A18 → Option B18) (c26 : A26 → Option B26) : A13 → Option B13 := fun ⟨⟨a'_0, ⟨a'_1, ()⟩⟩, ⟨until', ()⟩⟩ => ((c18 ((a'_0, (a'_1, ())), ())).bind fun ⟨⟨y0_0, ⟨y0_1, ⟨y0_2, y0_3⟩⟩⟩, ⟨y0_4, ⟨⟨y0_5, ⟨y0_6, ()⟩⟩, ()⟩⟩⟩ => (bif !y0_4 then (some ((0, (0, ({ data := #[] }, 0))), (false, ((y0_5, (y0_6, ())), ())))) else (bif decide (y0_0 > until') then (some ((0, (0, ({ data := #[] }, 0))), (false, ((y0_5, (y0_6, ())), ())))) else ((c26 ((y0_5, (y0_6, ())), ())).bind fun ⟨⟨y3_0, ⟨y3_1, ⟨y3_2, y3_3⟩⟩⟩, ⟨⟨y3_4, ⟨y3_5, ()⟩⟩, ()⟩⟩ => (some ((y3_0, (y3_1, (y3_2, y3_3))), (true, ((y3_4, (y3_5, ())), ()))))))))
def N13 : A13 → Option B13 := M13 N18 N26
def C13 : Ctr τ := ⟨i13, o13, N13, 0⟩
theorem g13 : GOK κ Try.prog (G13 N18 N26) := (gok_cons s18 (keeps0 rfl) (gok_cons s26 (keeps0 rfl) gok_nil))
theorem lall13 : ∀ Z : Zn, Z.rl = C13.o.keeps → Try.f13.ntmps ≤ Z.nt → ∀ p ∈ loops 0 (bodyOf Try.f13), ∀ C, (tabL []) p.1 = some C → LoopOK κ Try.prog Z p.2 C := fun Z h n => fun p hp => (by cases (show p ∈ ([] : List (Nat × Code)) from hp))
theorem e13 : ∀ (c18 : A18 → Option B18) (c26 : A26 → Option B26) x, M13 c18 c26 x = fnE Try.prog κ (G13 c18 c26) (tabL []) Try.f13 i13 o13 x := fun c18 c26 x => by kernel_rfl
theorem s13 : Sound κ Try.prog C13 13 := fn_sound (S := (tabL [])) (F := Try.f13) (code := bodyOf Try.f13) (by kernel_rfl) g13 Try.func13 (by kernel_rfl) (by kernel_rfl) (by kernel_rfl) lall13 (by kernel_rfl) (by kernel_rfl) fun x y h => (e13 N18 N26 x).symm.trans h
end Go.Proofs.Ytdcfpgkgaaobhaa.E
namespace Go.Proofs.Ytdcfpgkgaaobhaa.E
open Go
set_option linter.unusedVariables false
set_option maxRecDepth 100000
abbrev A7 : Type := (Unit)
abbrev B7 : Type := (Bool × Unit)
def i7 : Fr τ A7 := .nil
def o7 : Fr τ B7 := (.val 1000 .bool .nil)
def G7 (c8 : A8 → Option B8) (c9 : A9 → Option B9) (c13 : A13 → Option B13) (c11 : A11 → Option B11) : Nat → Option (Ctr τ) := tabG [(8, (⟨i8, o8, c8, 0⟩ : Ctr τ)), (9, (⟨i9, o9, c9, 0⟩ : Ctr τ)), (13, (⟨i13, o13, c13, 0⟩ : Ctr τ)), (11, (⟨i11, o11, c11, 0⟩ : Ctr τ))]
def M7 (c8 : A8 → Option B8) (c9 : A9 → Option B9) (c13 : A13 → Option B13) (c11 : A11 → Option B11) : A7 → Option B7 := fun () => ((c8 ()).bind fun ⟨⟨y0_0, ⟨y0_1, ()⟩⟩, ()⟩ => ((c9 ((y0_0, (y0_1, ())), (5, (1, ({ data := #[98] }, ()))))).bind fun ⟨y1_0, ⟨y1_1, ⟨⟨y1_2, ⟨y1_3, ()⟩⟩, ()⟩⟩⟩ => ((c9 ((y1_2, (y1_3, ())), (3, (9, ({ data := #[] }, ()))))).bind fun ⟨y2_0, ⟨y2_1, ⟨⟨y2_2, ⟨y2_3, ()⟩⟩, ()⟩⟩⟩ => ((c9 ((y2_2, (y2_3, ())), (5, (10, ({ data := #[] }, ()))))).bind fun ⟨y3_0, ⟨y3_1, ⟨⟨y3_2, ⟨y3_3, ()⟩⟩, ()⟩⟩⟩ => ((c13 ((y3_2, (y3_3, ())), (5, ()))).bind fun ⟨⟨y4_0, ⟨y4_1, ⟨y4_2, y4_3⟩⟩⟩, ⟨y4_4, ⟨⟨y4_5, ⟨y4_6, ()⟩⟩, ()⟩⟩⟩ => (bif y1_1 == 0 then (bif y2_1 == 0 then (bif y3_1 == 1 then (bif y1_0 == 1 then (bif y2_0 == 2 then (bif y4_4 then (bif y4_0 == 3 && (y4_1 == 9 && (ByteArray.toList y4_2 == ByteArray.toList { data := #[] } && y4_3 == 2)) then ((c11 ((y4_5, (y4_6, ())), ())).bind fun ⟨y12_0, ⟨⟨y12_1, ⟨y12_2, ()⟩⟩, ()⟩⟩ => (some (y12_0 == 1, ()))) else (some (false, ()))) else (some (false, ()))) else (some (false, ()))) else (some (false, ()))) else (some (false, ()))) else (some (false, ()))) else (some (false, ()))))))))
def N7 : A7 → Option B7 := M7 N8 N9 N13 N11
def C7 : Ctr τ := ⟨i7, o7, N7, 0⟩
theorem g7 : GOK κ Try.prog (G7 N8 N9 N13 N11) := (gok_cons s8 (keeps0 rfl) (gok_cons s9 (keeps0 rfl) (gok_cons s13 (keeps0 rfl) (gok_cons s11 (keeps0 rfl) gok_nil))))
theorem lall7 : ∀ Z : Zn, Z.rl = C7.o.keeps → Try.f7.ntmps ≤ Z.nt → ∀ p ∈ loops 0 (bodyOf Try.f7), ∀ C, (tabL []) p.1 = some C → LoopOK κ Try.prog Z p.2 C := fun Z h n => fun p hp => (by cases (show p ∈ ([] : List (Nat × Code)) from hp))
theorem e7 : ∀ (c8 : A8 → Option B8) (c9 : A9 → Option B9) (c13 : A13 → Option B13) (c11 : A11 → Option B11) x, M7 c8 c9 c13 c11 x = fnE Try.prog κ (G7 c8 c9 c13 c11) (tabL []) Try.f7 i7 o7 x := fun c8 c9 c13 c11 x => by kernel_rfl
theorem s7 : Sound κ Try.prog C7 7 := fn_sound (S := (tabL [])) (F := Try.f7) (code := bodyOf Try.f7) (by kernel_rfl) g7 Try.func7 (by kernel_rfl) (by kernel_rfl) (by kernel_rfl) lall7 (by kernel_rfl) (by kernel_rfl) fun x y h => (e7 N8 N9 N13 N11 x).symm.trans h
end Go.Proofs.Ytdcfpgkgaaobhaa.E
namespace Go.Proofs.Ytdcfpgkgaaobhaa.E
open Go
set_option linter.unusedVariables false
set_option maxRecDepth 100000
abbrev A28 : Type := ((Int × (Int × (ByteArray × Int))) × T3 × Unit)
abbrev B28 : Type := (Bool × Unit)
def i28 : Fr τ A28 := (.val 0 (.pair (.int .i64) (.pair (.int .i64) (.pair .str (.int .i64)))) (.val 1 (.ref 3) .nil))
def o28 : Fr τ B28 := (.val 1000 .bool .nil)
def G28 : Nat → Option (Ctr τ) := tabG []
def M28 : A28 → Option B28 := fun ⟨⟨d'_0, ⟨d'_1, ⟨d'_2, d'_3⟩⟩⟩, ⟨t1', ()⟩⟩ => (some (d'_3 == t1', ()))
def N28 : A28 → Option B28 := M28
def C28 : Ctr τ := ⟨i28, o28, N28, 0⟩
theorem g28 : GOK κ Try.prog (G28) := gok_nil
theorem lall28 : ∀ Z : Zn, Z.rl = C28.o.keeps → Try.f28.ntmps ≤ Z.nt → ∀ p ∈ loops 0 (bodyOf Try.f28), ∀ C, (tabL []) p.1 = some C → LoopOK κ Try.prog Z p.2 C := fun Z h n => fun p hp => (by cases (show p ∈ ([] : List (Nat × Code)) from hp))
theorem e28 : ∀ x, M28 x = fnE Try.prog κ (G28) (tabL []) Try.f28 i28 o28 x := fun x => by kernel_rfl
theorem s28 : Sound κ Try.prog C28 28 := fn_sound (S := (tabL [])) (F := Try.f28) (code := bodyOf Try.f28) (by kernel_rfl) g28 Try.func28 (by kernel_rfl) (by kernel_rfl) (by kernel_rfl) lall28 (by kernel_rfl) (by kernel_rfl) fun x y h => (e28 x).symm.trans h
end Go.Proofs.Ytdcfpgkgaaobhaa.E
namespace Go.Proofs.Ytdcfpgkgaaobhaa.E
open Go
set_option linter.unusedVariables false
set_option maxRecDepth 100000
abbrev A27 : Type := ((List T30) × T1000028 × Unit)
abbrev B27 : Type := (Int × Unit)
def i27 : Fr τ A27 := (.val 0 (.sl 30) (.val 1 (.clo 28 1000028) .nil))
def o27 : Fr τ B27 := (.val 1000 (.int .i64) .nil)
def G27 (c28 : A28 → Option B28) : Nat → Option (Ctr τ) := tabG [(28, (⟨i28, o28, c28, 0⟩ : Ctr τ))]
abbrev LA27_0 : Type := ((List T30) × T1000028 × Int × Int × Unit)
abbrev LB27_0 : Type := (Unit) ⊕ (Int × Unit)
def li27_0 : Fr τ LA27_0 := (.val 0 (.sl 30) (.val 1 (.clo 28 1000028) (.val 7 (.int .i64) (.val 8 (.int .i64) .nil))))
def lo27_0 : Ot τ LB27_0 := .alt (.exit 0) .nil (.one .ret (.val 4 (.int .i64) .nil))
def Q27_0 (c28 : A28 → Option B28) : LA27_0 → Option (LA27_0 ⊕ LB27_0) := fun ⟨s', ⟨⟨f', ()⟩, ⟨t7', ⟨t8', ()⟩⟩⟩⟩ => (bif decide (t8' < t7') then ((bif decide (0 ≤ t8') then s'[Int.toNat t8']? else none).bind fun ⟨y1_0, ⟨y1_1, ⟨y1_2, y1_3⟩⟩⟩ => ((c28 ((y1_0, (y1_1, (y1_2, y1_3))), (f', ()))).bind fun ⟨y2, ()⟩ => (bif y2 then (some (.inr (.inr (t8', ())))) else (let v0 : Int := t8' + 1; let v1 : Int := IntKind.wrap IntKind.i64 v0; some (.inl (s', ((f', ()), (t7', (v1, ()))))))))) else (some (.inr (.inl ()))))
def R27_0 : LA27_0 → Option (LA27_0 ⊕ LB27_0) := Q27_0 N28
def L27_0 : Lc τ := ⟨li27_0, itrs R27_0, lo27_0⟩
def M27 (c28 : A28 → Option B28) (l27_0 : LA27_0 → Option LB27_0) : A27 → Option B27 := fun ⟨s', ⟨⟨f', ()⟩, ()⟩⟩ => (let v0 : Int := ↑(List.length s'); (l27_0 (s', ((f', ()), (v0, (0, ()))))).bind fun y0 => (match y0 with | .inl () => (some (-1, ())) | .inr ⟨y1, ()⟩ => (some (y1, ()))))
def N27 : A27 → Option B27 := M27 N28 (itrs R27_0)
def C27 : Ctr τ := ⟨i27, o27, N27, 0⟩
theorem g27 : GOK κ Try.prog (G27 N28) := (gok_cons s28 (keeps0 rfl) gok_nil)
theorem le27_0 : ∀ (c28 : A28 → Option B28) x, Q27_0 c28 x = run Try.prog κ (G27 c28) (tabL []) 0 (loopAt Try.f27 0) (li27_0.build x) (rnd li27_0 lo27_0) := fun c28 x => by kernel_rfl
theorem linner27_0 : ∀ Z : Zn, Z.rl = [] → 19 ≤ Z.nt → ∀ p ∈ loops 0 (loopAt Try.f27 0), ∀ C, (tabL []) p.1 = some C → LoopOK κ Try.prog Z p.2 C := fun Z h n => fun p hp => (by cases (show p ∈ ([] : List (Nat × Code)) from hp))
theorem lk27_0 : ∀ Z : Zn, Z.rl = [] → 19 ≤ Z.nt → LoopOK κ Try.prog Z (loopAt Try.f27 0) L27_0 := fun Z h n => loop_ok (S := (tabL [])) R27_0 (by kernel_rfl) g27 (by rw [h]; exact dsts_mono n _ (by kernel_rfl)) (linner27_0 Z h n) (by kernel_rfl) (by kernel_rfl) (le27_0 N28) itrs_rounds
theorem lall27 : ∀ Z : Zn, Z.rl = C27.o.keeps → Try.f27.ntmps ≤ Z.nt → ∀ p ∈ loops 0 (bodyOf Try.f27), ∀ C, (tabL [(0, L27_0)]) p.1 = some C → LoopOK κ Try.prog Z p.2 C := fun Z h n => all_loops [(0, loopAt Try.f27 0)] (by kernel_rfl) (all_cons (fun C hC => (Option.some.inj hC : L27_0 = C) ▸ lk27_0 Z h n) (fun _ h => by cases h))
theorem e27 : ∀ (c28 : A28 → Option B28) (l27_0 : LA27_0 → Option LB27_0) x, M27 c28 l27_0 x = fnE Try.prog κ (G27 c28) (tabL [(0, (⟨li27_0, l27_0, lo27_0⟩ : Lc τ))]) Try.f27 i27 o27 x := fun c28 l27_0 x => by kernel_rfl
theorem s27 : Sound κ Try.prog C27 27 := fn_sound (S := (tabL [(0, L27_0)])) (F := Try.f27) (code := bodyOf Try.f27) (by kernel_rfl) g27 Try.func27 (by kernel_rfl) (by kernel_rfl) (by kernel_rfl) lall27 (by kernel_rfl) (by kernel_rfl) fun x y h => (e27 N28 (itrs R27_0) x).symm.trans h
end Go.Proofs.Ytdcfpgkgaaobhaa.E
namespace Go.Proofs.Ytdcfpgkgaaobhaa.E
open Go
set_option linter.unusedVariables false
set_option maxRecDepth 100000
abbrev A29 : Type := ((List T30 × (Int × Unit)) × Int × Unit)
abbrev B29 : Type := (T30 × (List T30 × (Int × Unit)) × Unit)
def i29 : Fr τ A29 := (.ptr 0 (some 52) 50 (.own 30 (.val (.int .i64) .nil)) (.val 1 (.int .i64) .nil))
def o29 : Fr τ B29 := (.val 1000 (.box 30 30) (.ptr 0 (some 52) 50 (.own 30 (.val (.int .i64) .nil)) .nil))
def G29 (c37 : A37 → Option B37) (c30 : A30 → Option B30) (c75 : A75 → Option B75) (c21 : A21 → Option B21) (c74 : A74 → Option B74) : Nat → Option (Ctr τ) := tabG [(37, (⟨i37, o37, c37, 0⟩ : Ctr τ)), (30, (⟨i30, o30, c30, 0⟩ : Ctr τ)), (75, (⟨i75, o75, c75, 0⟩ : Ctr τ)), (21, (⟨i21, o21, c21, 0⟩ : Ctr τ)), (74, (⟨i74, o74, c74, 0⟩ : Ctr τ))]
def M29 (c37 : A37 → Option B37) (c30 : A30 → Option B30) (c75 : A75 → Option B75) (c21 : A21 → Option B21) (c74 : A74 → Option B74) : A29 → Option B29 := fun ⟨⟨h'_0, ⟨h'_1, ()⟩⟩, ⟨i', ()⟩⟩ => ((c21 (h'_0, ())).bind fun ⟨y0_0, ⟨y0_1, ()⟩⟩ => (let v0 : Int := y0_0 - 1; let v1 : Int := IntKind.wrap IntKind.i64 v0; bif v1 != i' then ((c74 (y0_1, (i', (v1, ())))).bind fun ⟨y2, ()⟩ => ((c37 ((y2, (h'_1, ())), (i', (v1, ())))).bind fun ⟨y3_0, ⟨⟨y3_1, ⟨y3_2, ()⟩⟩, ()⟩⟩ => (bif !y3_0 then ((c30 ((y3_1, (y3_2, ())), (i', ()))).bind fun ⟨⟨y5_0, ⟨y5_1, ()⟩⟩, ()⟩ => ((c75 ((y5_0, (y5_1, ())), ())).bind fun ⟨⟨y6_0, ⟨y6_1, ⟨y6_2, y6_3⟩⟩⟩, ⟨⟨y6_4, ⟨y6_5, ()⟩⟩, ()⟩⟩ => (some ((y6_0, (y6_1, (y6_2, y6_3))), ((y6_4, (y6_5, ())), ()))))) else ((c75 ((y3_1, (y3_2, ())), ())).bind fun ⟨⟨y5_0, ⟨y5_1, ⟨y5_2, y5_3⟩⟩⟩, ⟨⟨y5_4, ⟨y5_5, ()⟩⟩, ()⟩⟩ => (some ((y5_0, (y5_1, (y5_2, y5_3))), ((y5_4, (y5_5, ())), ()))))))) else ((c75 ((y0_1, (h'_1, ())), ())).bind fun ⟨⟨y2_0, ⟨y2_1, ⟨y2_2, y2_3⟩⟩⟩, ⟨⟨y2_4, ⟨y2_5, ()⟩⟩, ()⟩⟩ => (some ((y2_0, (y2_1, (y2_2, y2_3))), ((y2_4, (y2_5, ())), ()))))))
def N29 : A29 → Option B29 := M29 N37 N30 N75 N21 N74
def C29 : Ctr τ := ⟨i29, o29, N29, 0⟩
theorem g29 : GOK κ Try.prog (G29 N37 N30 N75 N21 N74) := (gok_cons s37 (keeps0 rfl) (gok_cons s30 (keeps0 rfl) (gok_cons s75 (keeps0 rfl) (gok_cons s21 (keeps0 rfl) (gok_cons s74 (keeps0 rfl) gok_nil)))))
theorem lall29 : ∀ Z : Zn, Z.rl = C29.o.keeps → Try.f29.ntmps ≤ Z.nt → ∀ p ∈ loops 0 (bodyOf Try.f29), ∀ C, (tabL []) p.1 = some C → LoopOK κ Try.prog Z p.2 C := fun Z h n => fun p hp => (by cases (show p ∈ ([] : List (Nat × Code)) from hp))
theorem e29 : ∀ (c37 : A37 → Option B37) (c30 : A30 → Option B30) (c75 : A75 → Option B75) (c21 : A21 → Option B21) (c74 : A74 → Option B74) x, M29 c37 c30 c75 c21 c74 x = fnE Try.prog κ (G29 c37 c30 c75 c21 c74) (tabL []) Try.f29 i29 o29 x := fun c37 c30 c75 c21 c74 x => by kernel_rfl
theorem s29 : Sound κ Try.prog C29 29 := fn_sound (S := (tabL [])) (F := Try.f29) (code := bodyOf Try.f29) (by kernel_rfl) g29 Try.func29 (by kernel_rfl) (by kernel_rfl) (by kernel_rfl) lall29 (by kernel_rfl) (by kernel_rfl) fun x y h => (e29 N37 N30 N75 N21 N74 x).symm.trans h
end Go.Proofs.Ytdcfpgkgaaobhaa.E
namespace Go.Proofs.Ytdcfpgkgaaobhaa.E
open Go
set_option linter.unusedVariables false
set_option maxRecDepth 100000
abbrev A16 : Type := ((List T30 × (Int × Unit)) × Int × Unit)
abbrev B16 : Type := (Bool × (List T30 × (Int × Unit)) × Unit)
def i16 : Fr τ A16 := (.ptr 0 none 50 (.own 30 (.val (.int .i64) .nil)) (.val 1 (.int .i64) .nil))
def o16 : Fr τ B16 := (.val 1000 .bool (.ptr 0 none 50 (.own 30 (.val (.int .i64) .nil)) .nil))
def G16 (c28 : A28 → Option B28) (c27 : A27 → Option B27) (c29 : A29 → Option B29) : Nat → Option (Ctr τ) := tabG [(28, (⟨i28, o28, c28, 0⟩ : Ctr τ)), (27, (⟨i27, o27, c27, 0⟩ : Ctr τ)), (29, (⟨i29, o29, c29, 0⟩ : Ctr τ))]
def M16 (c28 : A28 → Option B28) (c27 : A27 → Option B27) (c29 : A29 → Option B29) : A16 → Option B16 := fun ⟨⟨a'_0, ⟨a'_1, ()⟩⟩, ⟨number', ()⟩⟩ => ((c27 (a'_0, ((number', ()), ()))).bind fun ⟨y0, ()⟩ => (bif decide (y0 < 0) then (some (false, ((a'_0, (a'_1, ())), ()))) else ((c29 ((a'_0, (a'_1, ())), (y0, ()))).bind fun ⟨⟨y2_0, ⟨y2_1, ⟨y2_2, y2_3⟩⟩⟩, ⟨⟨y2_4, ⟨y2_5, ()⟩⟩, ()⟩⟩ => (some (true, ((y2_4, (y2_5, ())), ()))))))
def N16 : A16 → Option B16 := M16 N28 N27 N29
def C16 : Ctr τ := ⟨i16, o16, N16, 0⟩
theorem g16 : GOK κ Try.prog (G16 N28 N27 N29) := (gok_cons s28 (keeps0 rfl) (gok_cons s27 (keeps0 rfl) (gok_cons s29 (keeps0 rfl) gok_nil)))
theorem lall16 : ∀ Z : Zn, Z.rl = C16.o.keeps → Try.f16.ntmps ≤ Z.nt → ∀ p ∈ loops 0 (bodyOf Try.f16), ∀ C, (tabL []) p.1 = some C → LoopOK κ Try.prog Z p.2 C := fun Z h n => fun p hp => (by cases (show p ∈ ([] : List (Nat × Code)) from hp))
theorem e16 : ∀ (c28 : A28 → Option B28) (c27 : A27 → Option B27) (c29 : A29 → Option B29) x, M16 c28 c27 c29 x = fnE Try.prog κ (G16 c28 c27 c29) (tabL []) Try.f16 i16 o16 x := fun c28 c27 c29 x => by kernel_rfl
theorem s16 : Sound κ Try.prog C16 16 := fn_sound (S := (tabL [])) (F := Try.f16) (code := bodyOf Try.f16) (by kernel_rfl) g16 Try.func16 (by kernel_rfl) (by kernel_rfl) (by kernel_rfl) lall16 (by kernel_rfl) (by kernel_rfl) fun x y h => (e16 N28 N27 N29 x).symm.trans h
end Go.Proofs.Ytdcfpgkgaaobhaa.E
/-
  Whole orders; cmp's comparisons. No condition.
-/
namespace Go.Proofs.Ytdcfpgkgaaobhaa.E
open Go Go.Sort
set_option linter.unusedVariables false
set_option linter.unusedSimpArgs false
set_option maxRecDepth 100000
/-- A whole order. -/
structure Tot {α : Type} (lt : α → α → Bool) : Prop where
  irr : ∀ x, lt x x = false
  trans : ∀ x y z, lt x y = true → lt y z = true → lt x z = true
  tri : ∀ x y, lt x y = false → lt y x = false → x = y
theorem Tot.swo {α : Type} {lt : α → α → Bool} (h : Tot lt) : SWO lt := ⟨h.irr, h.trans, fun x y z h1 h2 => by
  cases h3 : lt x z with
  | false => rfl
  | true =>
    cases h4 : lt y x with
    | true => rw [h.trans y x z h4 h3] at h2; exact h2
    | false => rw [h.tri x y h1 h4, h2] at h3; cases h3⟩
def lexL {α β : Type} (l1 : α → α → Bool) (l2 : β → β → Bool) (x y : α × β) : Bool := l1 x.1 y.1 || (!(l1 y.1 x.1) && l2 x.2 y.2)
theorem Tot.lex {α β : Type} {l1 : α → α → Bool} {l2 : β → β → Bool} (h1 : Tot l1) (h2 : Tot l2) : Tot (lexL l1 l2) := ⟨fun x => by simp [lexL, h1.irr, h2.irr], fun x y z a b => by
  obtain ⟨x1, x2⟩ := x
  obtain ⟨y1, y2⟩ := y
  obtain ⟨z1, z2⟩ := z
  simp only [lexL, Bool.or_eq_true, Bool.and_eq_true, Bool.not_eq_true'] at *
  rcases a with a | ⟨a, a2⟩
  · rcases b with b | ⟨b, b2⟩
    · exact .inl (h1.trans _ _ _ a b)
    · cases c : l1 y1 z1 with
      | true => exact .inl (h1.trans _ _ _ a c)
      | false => rw [← h1.tri _ _ c b]; exact .inl a
  · cases c : l1 x1 y1 with
    | true =>
      rcases b with b | ⟨b, b2⟩
      · exact .inl (h1.trans _ _ _ c b)
      · cases c2 : l1 y1 z1 with
        | true => exact .inl (h1.trans _ _ _ c c2)
        | false => rw [← h1.tri _ _ c2 b]; exact .inl c
    | false =>
      have e := h1.tri _ _ c a
      subst e
      rcases b with b | ⟨b, b2⟩
      · exact .inl b
      · exact .inr ⟨b, h2.trans _ _ _ a2 b2⟩, fun x y a b => by
  obtain ⟨x1, x2⟩ := x
  obtain ⟨y1, y2⟩ := y
  simp only [lexL, Bool.or_eq_false_iff] at *
  obtain ⟨a, a2⟩ := a
  obtain ⟨b, b2⟩ := b
  rw [b] at a2
  rw [a] at b2
  rw [h1.tri x1 y1 a b, h2.tri x2 y2 (by simpa using a2) (by simpa using b2)]⟩
def ltI (x y : Int) : Bool := decide (x < y)
theorem totI : Tot ltI := ⟨fun x => by simp [ltI], fun x y z h1 h2 => by simp only [ltI, decide_eq_true_eq] at *; omega, fun x y h1 h2 => by simp only [ltI, decide_eq_false_iff_not] at *; omega⟩
theorem totL : Tot Op.bytesLess := by
  refine ⟨fun x => ?_, ?_, ?_⟩
  · induction x with
    | nil => rfl
    | cons a x ih => simp [Op.bytesLess, ih]
  · intro x
    induction x with
    | nil =>
      intro y z h1 h2
      cases z with
      | nil => cases y <;> simp [Op.bytesLess] at h2
      | cons c z => rfl
    | cons a x ih =>
      intro y z h1 h2
      cases y with
      | nil => simp [Op.bytesLess] at h1
      | cons b y =>
        cases z with
        | nil => simp [Op.bytesLess] at h2
        | cons c z =>
          simp only [Op.bytesLess, Bool.or_eq_true, Bool.and_eq_true, decide_eq_true_eq, beq_iff_eq, UInt8.lt_iff_toNat_lt] at *
          rcases h1 with h1 | ⟨rfl, h1⟩
          · rcases h2 with h2 | ⟨rfl, h2⟩
            · exact .inl (by omega)
            · exact .inl h1
          · rcases h2 with h2 | ⟨rfl, h2⟩
            · exact .inl h2
            · exact .inr ⟨rfl, ih _ _ h1 h2⟩
  · intro x
    induction x with
    | nil =>
      intro y h1 h2
      cases y with
      | nil => rfl
      | cons b y => simp [Op.bytesLess] at h1
    | cons a x ih =>
      intro y h1 h2
      cases y with
      | nil => simp [Op.bytesLess] at h2
      | cons b y =>
        simp only [Op.bytesLess, Bool.or_eq_false_iff, decide_eq_false_iff_not, UInt8.lt_iff_toNat_lt] at *
        have e : a = b := UInt8.toNat_inj.1 (by omega)
        subst e
        simp only [beq_self_eq_true, Bool.true_and] at h1 h2
        rw [ih _ h1.2 h2.2]
def ltB (x y : ByteArray) : Bool := Op.bytesLess (ByteArray.toList x) (ByteArray.toList y)
theorem toList_inj {x y : ByteArray} (h : ByteArray.toList x = ByteArray.toList y) : x = y := by
  rw [ByteArray.toList_eq x, ByteArray.toList_eq y] at h
  obtain ⟨⟨x⟩⟩ := x
  obtain ⟨⟨y⟩⟩ := y
  exact congrArg (fun l : List UInt8 => (⟨⟨l⟩⟩ : ByteArray)) h
theorem totB : Tot ltB := ⟨fun x => totL.irr _, fun x y z => totL.trans _ _ _, fun x y h1 h2 => toList_inj (totL.tri _ _ h1 h2)⟩
def sgn {α : Type} (lt : α → α → Bool) (x y : α) : Int := bif lt x y then -1 else bif lt y x then 1 else 0
def firstV (l : List Int) : Int := (l.find? (· != 0)).getD 0
theorem or_loop {L : List Int} (hL : L.length ≤ 1000000) : ∀ (n i : Nat), i + n = L.length → itr R33_0 (n + 1) (0, L, (L.length : Int), (i : Int), ()) = some (match (L.drop i).find? (· != 0) with | some y => .inr (y, ()) | none => .inl (0, ()))
  | 0, i, h => by
    rw [List.drop_eq_nil_of_le (by omega)]
    refine itr_out ?_
    unfold R33_0 Q33_0
    simp only []
    rw [bif_f (c := decide ((i : Int) < (L.length : Int))) (decide_eq_false (by omega))]
    rfl
  | n + 1, i, h => by
    have hi : i < L.length := by omega
    have hg := at_get hi
    have hro : R33_0 (0, L, (L.length : Int), (i : Int), ()) = bif L[i] != 0 then some (.inr (.inr (L[i], ()))) else some (.inl (0, L, (L.length : Int), ((i + 1 : Nat) : Int), ())) := by
      unfold R33_0 Q33_0
      simp only []
      rw [bif_t (c := decide ((i : Int) < (L.length : Int))) (decide_eq_true (by omega)), hg]
      simp only [Option.bind_some]
      rw [wsi (n := (i : Int) + 1) (by omega)]
      rfl
    rw [List.drop_eq_getElem_cons hi, List.find?_cons]
    cases hc : (L[i] != 0) with
    | true =>
      rw [hc, cond_true] at hro
      exact itr_out hro
    | false =>
      rw [hc, cond_false] at hro
      rw [itr_in hro]
      exact or_loop hL n (i + 1) (by omega)
theorem mOr {L : List Int} (hL : L.length ≤ 1000000) : N33 (L, ()) = some (firstV L, ()) := by
  have h := itrs_eq (or_loop hL L.length 0 (by omega)) rfl (by omega)
  rw [show ((0 : Nat) : Int) = 0 from rfl, List.drop_zero] at h
  unfold N33 M33 firstV
  simp only []
  rw [h]
  cases L.find? (· != 0) <;> rfl
theorem mCmpI (x y : Int) : N35 (x, y, ()) = some (sgn ltI x y, ()) ∧ N34 (x, y, ()) = some (sgn ltI x y, ()) := by
  constructor
  · unfold N35 M35 sgn ltI
    simp only []
    rw [show ∀ z, N49 (z, ()) = some (false, ()) from fun z => by unfold N49 M49; simp, show ∀ z, N49 (z, ()) = some (false, ()) from fun z => by unfold N49 M49; simp]
    simp only [Option.bind_some, cond_false]
    by_cases h1 : x < y <;> by_cases h2 : y < x <;> simp [h1, h2]
  · unfold N34 M34 sgn ltI
    simp only []
    rw [show ∀ z, N48 (z, ()) = some (false, ()) from fun z => by unfold N48 M48; simp, show ∀ z, N48 (z, ()) = some (false, ()) from fun z => by unfold N48 M48; simp]
    simp only [Option.bind_some, cond_false]
    by_cases h1 : x < y <;> by_cases h2 : y < x <;> simp [h1, h2]
theorem mCmpB (x y : ByteArray) : N36 (x, y, ()) = some (sgn ltB x y, ()) := by
  have hn : ∀ z, N50 (z, ()) = some (false, ()) := fun z => by unfold N50 M50; simp
  unfold N36 M36 sgn ltB
  simp only []
  rw [hn, hn]
  simp only [Option.bind_some, cond_false]
  generalize ByteArray.toList x = a
  generalize ByteArray.toList y = b
  cases h1 : Op.bytesLess a b with
  | true => rfl
  | false =>
    cases h2 : Op.bytesLess b a with
    | true =>
      have : (a == b) = false := by
        rw [beq_eq_false_iff_ne]
        intro e
        rw [e, totL.irr] at h2
        cases h2
      rw [this]; rfl
    | false =>
      have : (a == b) = true := by rw [beq_iff_eq]; exact totL.tri _ _ h1 h2
      rw [this]; rfl
theorem sgn_lt {α : Type} {lt : α → α → Bool} (h : Tot lt) (x y : α) : decide (sgn lt x y < 0) = lt x y ∧ (sgn lt x y != 0) = (lt x y || lt y x) := by
  unfold sgn
  cases h1 : lt x y with
  | true => exact ⟨rfl, rfl⟩
  | false => cases h2 : lt y x <;> exact ⟨rfl, rfl⟩
theorem first_cons (x : Int) (l : List Int) : firstV (x :: l) = bif x != 0 then x else firstV l := by
  unfold firstV
  rw [List.find?_cons]
  cases (x != 0) <;> rfl
theorem dec_bif (c : Bool) (x y : Int) : decide ((bif c then x else y) < 0) = bif c then decide (x < 0) else decide (y < 0) := by cases c <;> rfl
end Go.Proofs.Ytdcfpgkgaaobhaa.E
/-
  The order of what is due. No condition.
-/
namespace Go.Proofs.Ytdcfpgkgaaobhaa.E
open Go
set_option linter.unusedVariables false
set_option linter.unusedSimpArgs false
set_option maxRecDepth 100000
abbrev Qe : Type := Int × Int × ByteArray × Int
abbrev qz : Qe := (0, 0, { data := #[] }, 0)
def qlt : Qe → Qe → Bool := lexL ltI (lexL ltI (lexL ltB ltI))
theorem qTot : Tot qlt := totI.lex (totI.lex (totB.lex totI))
def cmpQ (a b : Qe) : Int := firstV [sgn ltI a.1 b.1, sgn ltI a.2.1 b.2.1, sgn ltB a.2.2.1 b.2.2.1, sgn ltI a.2.2.2 b.2.2.2]
theorem mCompare (a b : Qe) : N25 (a, b, ()) = some (cmpQ a b, ()) := by
  obtain ⟨a1, a2, a3, a4⟩ := a
  obtain ⟨b1, b2, b3, b4⟩ := b
  unfold N25 M25 cmpQ
  simp only []
  rw [mCmpB, (mCmpI a2 b2).1, (mCmpI a1 b1).2, (mCmpI a4 b4).1]
  simp only [Option.bind_some]
  rw [mOr (by simp)]
  rfl
theorem cmpQ_lt (a b : Qe) : decide (cmpQ a b < 0) = qlt a b := by
  obtain ⟨p1, p2⟩ := sgn_lt totI a.1 b.1
  obtain ⟨q1, q2⟩ := sgn_lt totI a.2.1 b.2.1
  obtain ⟨r1, r2⟩ := sgn_lt totB a.2.2.1 b.2.2.1
  obtain ⟨s1, s2⟩ := sgn_lt totI a.2.2.2 b.2.2.2
  unfold cmpQ qlt lexL
  rw [first_cons, dec_bif, p1, p2, first_cons, dec_bif, q1, q2, first_cons, dec_bif, r1, r2, first_cons, dec_bif, s1, s2]
  rw [show decide (firstV [] < 0) = false from rfl]
  cases ltI a.1 b.1 <;> cases ltI b.1 a.1 <;> cases ltI a.2.1 b.2.1 <;> cases ltI b.2.1 a.2.1 <;> cases ltB a.2.2.1 b.2.2.1 <;> cases ltB b.2.2.1 a.2.2.1 <;> cases ltI a.2.2.2 b.2.2.2 <;> cases ltI b.2.2.2 a.2.2.2 <;> rfl
end Go.Proofs.Ytdcfpgkgaaobhaa.E
/-
  slices.SortFunc by the order of what is due. No condition. (The laying of the shelf's contract is the kit's own print.)
-/
namespace Go.Proofs
open Go.Shelf
def Try.sortR_ren : Go.Shelf.Ren := ⟨fun | 6 => 24 | 15 => 32 | 14 => 31 | 28 => 46 | 29 => 47 | 20 => 38 | 21 => 39 | 22 => 40 | 23 => 41 | 24 => 42 | 25 => 43 | 26 => 44 | 27 => 45 | 46 => 51 | 47 => 52 | 48 => 53 | 49 => 54 | 50 => 55 | 57 => 56 | n => n, fun | 22 => 22 | 24 => 30 | 25 => 55 | 3 => 3 | 39 => 66 | 0 => 0 | 53 => 84 | 55 => 86 | 4 => 4 | 46 => 77 | 45 => 76 | 50 => 81 | 5 => 5 | 9 => 9 | 66 => 90 | 70 => 94 | 76 => 96 | 77 => 97 | n => n, fun | n => n⟩
theorem Try.sortR : Go.Proofs.SlLaysF0.n6 Try.prog Try.sortR_ren := {
  mixed := by kernel_rfl
  f6 := ⟨Try.f24.name, by decide, Try.func24.trans (congrArg some (by kernel_rfl))⟩
  f14 := ⟨Try.f31.name, by decide, Try.func31.trans (congrArg some (by kernel_rfl))⟩
  f15 := Try.func32.trans (congrArg some (by kernel_rfl))
  f20 := ⟨Try.f38.name, by decide, Try.func38.trans (congrArg some (by kernel_rfl))⟩
  f21 := ⟨Try.f39.name, by decide, Try.func39.trans (congrArg some (by kernel_rfl))⟩
  f22 := ⟨Try.f40.name, by decide, Try.func40.trans (congrArg some (by kernel_rfl))⟩
  f23 := ⟨Try.f41.name, by decide, Try.func41.trans (congrArg some (by kernel_rfl))⟩
  f24 := ⟨Try.f42.name, by decide, Try.func42.trans (congrArg some (by kernel_rfl))⟩
  f25 := ⟨Try.f43.name, by decide, Try.func43.trans (congrArg some (by kernel_rfl))⟩
  f26 := ⟨Try.f44.name, by decide, Try.func44.trans (congrArg some (by kernel_rfl))⟩
  f27 := ⟨Try.f45.name, by decide, Try.func45.trans (congrArg some (by kernel_rfl))⟩
  f28 := Try.func46.trans (congrArg some (by kernel_rfl))
  f29 := Try.func47.trans (congrArg some (by kernel_rfl))
  f46 := ⟨Try.f51.name, by decide, Try.func51.trans (congrArg some (by kernel_rfl))⟩
  f47 := Try.func52.trans (congrArg some (by kernel_rfl))
  f48 := Try.func53.trans (congrArg some (by kernel_rfl))
  f49 := ⟨Try.f54.name, by decide, Try.func54.trans (congrArg some (by kernel_rfl))⟩
  f50 := ⟨Try.f55.name, by decide, Try.func55.trans (congrArg some (by kernel_rfl))⟩
  f57 := ⟨Try.f56.name, by decide, Try.func56.trans (congrArg some (by kernel_rfl))⟩
  t0 := Try.underlying0
  a0 := Try.isAgg0
  z0 := Try.sizeOf0
  v0 := Try.zeroValue0
  t3 := Try.underlying3
  a3 := Try.isAgg3
  z3 := Try.sizeOf3
  v3 := Try.zeroValue3
  t4 := Try.underlying4
  a4 := Try.isAgg4
  z4 := Try.sizeOf4
  v4 := Try.zeroValue4
  t5 := Try.underlying5
  a5 := Try.isAgg5
  z5 := Try.sizeOf5
  v5 := Try.zeroValue5
  t9 := Try.underlying9
  a9 := Try.isAgg9
  z9 := Try.sizeOf9
  v9 := Try.zeroValue9
  t22 := Try.underlying22
  a22 := Try.isAgg22
  z22 := Try.sizeOf22
  v22 := Try.zeroValue22
  t25 := Try.underlying55
  a25 := Try.isAgg55
  z25 := Try.sizeOf55
  v25 := Try.zeroValue55
  t39 := Try.underlying66
  a39 := Try.isAgg66
  z39 := Try.sizeOf66
  v39 := Try.zeroValue66
  t45 := Try.underlying76
  a45 := Try.isAgg76
  z45 := Try.sizeOf76
  v45 := Try.zeroValue76
  t46 := Try.underlying77
  a46 := Try.isAgg77
  z46 := Try.sizeOf77
  v46 := Try.zeroValue77
  t50 := Try.underlying81
  a50 := Try.isAgg81
  z50 := Try.sizeOf81
  v50 := Try.zeroValue81
  t53 := Try.underlying84
  a53 := Try.isAgg84
  z53 := Try.sizeOf84
  v53 := Try.zeroValue84
  t55 := Try.underlying86
  a55 := Try.isAgg86
  z55 := Try.sizeOf86
  v55 := Try.zeroValue86
  t66 := Try.underlying90
  a66 := Try.isAgg90
  z66 := Try.sizeOf90
  v66 := Try.zeroValue90
  t70 := Try.underlying94
  a70 := Try.isAgg94
  z70 := Try.sizeOf94
  v70 := Try.zeroValue94
  t76 := Try.underlying96
  a76 := Try.isAgg96
  z76 := Try.sizeOf96
  v76 := Try.zeroValue96
  t77 := Try.underlying97
  a77 := Try.isAgg97
  z77 := Try.sizeOf97
  v77 := Try.zeroValue97 }
end Go.Proofs
namespace Go.Proofs.Ytdcfpgkgaaobhaa.E
open Go Go.Shelf Go.RowKit Go.Lib Go.Sort
set_option linter.unusedVariables false
set_option linter.unusedSimpArgs false
set_option maxRecDepth 100000
theorem ltV : ltOf cmpQ = qlt := by
  funext a b
  exact cmpQ_lt a b
theorem swoV : SWO (ltOf cmpQ) := by rw [ltV]; exact qTot.swo
theorem triV : ∀ x y : T30, ltOf cmpQ x y = false → ltOf cmpQ y x = false → x = y := by rw [ltV]; exact qTot.tri
def cSortG {τ : Nat → Type} (e g : Nat) (cf : τ e → τ e → Int) : Ctr τ := ⟨.own 0 e (.val 1 (.fnc g) .nil), .own 0 e .nil, fun x => bif decide (x.1.length ≤ 4611686018427387903) then some (sortV cf x.1, ()) else none, 0⟩
theorem sortOK : Sound κ Try.prog (cSortG (e := 30) (g := 25) (cf := cmpQ) (τ := τ)) 24 :=
  sort_sound (κ := κ) (e := 30) (cf := cmpQ) ((0, 0, { data := #[] }, 0) : T30) rfl rfl (by decide) s25 mCompare Try.func25 (by kernel_rfl) (code := bodyOf Try.f25) (by kernel_rfl) swoV triV Try.func24 (by kernel_rfl) (codef := bodyOf Try.f24) (by kernel_rfl) Try.sortR rfl (fun w => by kernel_rfl) (fun w => by kernel_rfl)
end Go.Proofs.Ytdcfpgkgaaobhaa.E
/-
  slices.Clone of readings. No condition.
-/
namespace Go.Proofs
open Go.Shelf Go.RowKit Go.Lib Go.Sort
theorem clone_nil (n c : Nat) (w : World) : Calls Try.prog 23 #[.slice none n c] w fun e w' => e = .returned (.slice none 0 0) ∧ w' = w := by
  have q22 : ∀ (w : World) (a : Option Addr) (n c n' c' : Nat), (binOp .eql 22 (.slice a n c) (.slice none n' c')).run Try.prog w = .ok (.bool a.isNone) w := fun w a n c n' c' => Lib.run_eql_slice_nil w _ _ a n c n' c' Try.underlying22
  go_enter Try.func23, Try.ntmps23
  go_wp2
  go_ret
  exact ⟨rfl, rfl⟩
theorem clone_zero (a : Addr) (c : Nat) (w : World) : Calls Try.prog 23 #[.slice (some a) 0 c] w fun e w' => e = .returned (.slice (some ⟨w.heap.size, 0, none⟩) 0 0) ∧ w' = w.alloc (.cells #[] 30) := by
  have q22 : ∀ (w : World) (a : Option Addr) (n c n' c' : Nat), (binOp .eql 22 (.slice a n c) (.slice none n' c')).run Try.prog w = .ok (.bool a.isNone) w := fun w a n c n' c' => Lib.run_eql_slice_nil w _ _ a n c n' c' Try.underlying22
  have u22 : ∀ w, Sem.run Try.prog (underlying 22) w = .ok (TypeDesc.slice 30) w := run_underlying Try.underlying22
  go_enter Try.func23, Try.ntmps23
  go_wp2
  go_ret
  exact ⟨rfl, rfl⟩
end Go.Proofs
namespace Go.Proofs.Ytdcfpgkgaaobhaa.E
open Go
set_option linter.unusedVariables false
def cCloneG {τ : Nat → Type} (e : Nat) (F : List (τ e) × Unit → Option (List (τ e) × Unit)) : Ctr τ := ⟨.val 0 (.sl e) .nil, .own 1000 e .nil, fun x => bif x.1.isEmpty then some ([], ()) else F x, 0⟩
theorem cloneOK : Sound κ Try.prog (cCloneG (e := 30) (F := N23) (τ := τ)) 23 :=
  clone_sound s23 Try.func23 (by kernel_rfl) (code := bodyOf Try.f23) (by kernel_rfl) clone_nil clone_zero
end Go.Proofs.Ytdcfpgkgaaobhaa.E
namespace Go.Proofs.Ytdcfpgkgaaobhaa.E
open Go
set_option linter.unusedVariables false
set_option maxRecDepth 100000
abbrev A10 : Type := (T50 × Unit)
abbrev B10 : Type := ((List T30) × Unit)
def i10 : Fr τ A10 := (.val 0 (.ref 50) .nil)
def o10 : Fr τ B10 := (.own 1000 30 .nil)
def G10 (c23 : (List T30 × Unit) → Option (List T30 × Unit)) (c24 : (List T30 × Unit × Unit) → Option (List T30 × Unit)) (c25 : A25 → Option B25) : Nat → Option (Ctr τ) := tabG [(23, ({ (cCloneG (e := 30) (F := N23) (τ := τ)) with f := c23 } : Ctr τ)), (24, ({ (cSortG (e := 30) (g := 25) (cf := cmpQ) (τ := τ)) with f := c24 } : Ctr τ)), (25, (⟨i25, o25, c25, 0⟩ : Ctr τ))]
def M10 (c23 : (List T30 × Unit) → Option (List T30 × Unit)) (c24 : (List T30 × Unit × Unit) → Option (List T30 × Unit)) (c25 : A25 → Option B25) : A10 → Option B10 := fun ⟨⟨a'_0, a'_1⟩, ()⟩ => ((c23 (a'_0, ())).bind fun ⟨y0, ()⟩ => ((c24 (y0, ((), ()))).bind fun ⟨y1, ()⟩ => (some (y1, ()))))
def N10 : A10 → Option B10 := M10 (cCloneG (e := 30) (F := N23) (τ := τ)).f (cSortG (e := 30) (g := 25) (cf := cmpQ) (τ := τ)).f N25
def C10 : Ctr τ := ⟨i10, o10, N10, 0⟩
theorem g10 : GOK κ Try.prog (G10 (cCloneG (e := 30) (F := N23) (τ := τ)).f (cSortG (e := 30) (g := 25) (cf := cmpQ) (τ := τ)).f N25) := (gok_cons cloneOK (keeps0 rfl) (gok_cons sortOK (keeps0 rfl) (gok_cons s25 (keeps0 rfl) gok_nil)))
theorem lall10 : ∀ Z : Zn, Z.rl = C10.o.keeps → Try.f10.ntmps ≤ Z.nt → ∀ p ∈ loops 0 (bodyOf Try.f10), ∀ C, (tabL []) p.1 = some C → LoopOK κ Try.prog Z p.2 C := fun Z h n => fun p hp => (by cases (show p ∈ ([] : List (Nat × Code)) from hp))
theorem e10 : ∀ (c23 : (List T30 × Unit) → Option (List T30 × Unit)) (c24 : (List T30 × Unit × Unit) → Option (List T30 × Unit)) (c25 : A25 → Option B25) x, M10 c23 c24 c25 x = fnE Try.prog κ (G10 c23 c24 c25) (tabL []) Try.f10 i10 o10 x := fun c23 c24 c25 x => by kernel_rfl
theorem s10 : Sound κ Try.prog C10 10 := fn_sound (S := (tabL [])) (F := Try.f10) (code := bodyOf Try.f10) (by kernel_rfl) g10 Try.func10 (by kernel_rfl) (by kernel_rfl) (by kernel_rfl) lall10 (by kernel_rfl) (by kernel_rfl) fun x y h => (e10 (cCloneG (e := 30) (F := N23) (τ := τ)).f (cSortG (e := 30) (g := 25) (cf := cmpQ) (τ := τ)).f N25 x).symm.trans h
end Go.Proofs.Ytdcfpgkgaaobhaa.E
namespace Go.Proofs.Ytdcfpgkgaaobhaa.E
open Go
set_option linter.unusedVariables false
set_option maxRecDepth 100000
abbrev A20 : Type := ((List T30) × (List T30) × Unit)
abbrev B20 : Type := (Bool × Unit)
def i20 : Fr τ A20 := (.val 0 (.sl 30) (.val 1 (.sl 30) .nil))
def o20 : Fr τ B20 := (.val 1000 .bool .nil)
def G20 : Nat → Option (Ctr τ) := tabG []
abbrev LA20_0 : Type := ((List T30) × (List T30) × Int × Unit)
abbrev LB20_0 : Type := (Unit) ⊕ (Bool × Unit)
def li20_0 : Fr τ LA20_0 := (.val 0 (.sl 30) (.val 1 (.sl 30) (.val 5 (.int .i64) .nil)))
def lo20_0 : Ot τ LB20_0 := .alt (.exit 0) .nil (.one .ret (.val 4 .bool .nil))
def Q20_0 : LA20_0 → Option (LA20_0 ⊕ LB20_0) := fun ⟨a', ⟨b', ⟨i', ()⟩⟩⟩ => (let v0 : Int := ↑(List.length a'); bif decide (i' < v0) then ((bif decide (0 ≤ i') then a'[Int.toNat i']? else none).bind fun ⟨y1_0, ⟨y1_1, ⟨y1_2, y1_3⟩⟩⟩ => ((bif decide (0 ≤ i') then b'[Int.toNat i']? else none).bind fun ⟨y2_0, ⟨y2_1, ⟨y2_2, y2_3⟩⟩⟩ => (bif !(y1_0 == y2_0 && (y1_1 == y2_1 && (ByteArray.toList y1_2 == ByteArray.toList y2_2 && y1_3 == y2_3))) then (some (.inr (.inr (false, ())))) else (let v1 : Int := i' + 1; let v2 : Int := IntKind.wrap IntKind.i64 v1; some (.inl (a', (b', (v2, ())))))))) else (some (.inr (.inl ()))))
def R20_0 : LA20_0 → Option (LA20_0 ⊕ LB20_0) := Q20_0
def L20_0 : Lc τ := ⟨li20_0, itrs R20_0, lo20_0⟩
def M20 (l20_0 : LA20_0 → Option LB20_0) : A20 → Option B20 := fun ⟨a', ⟨b', ()⟩⟩ => (let v0 : Int := ↑(List.length a'); let v1 : Int := ↑(List.length b'); bif v0 != v1 then (some (false, ())) else ((l20_0 (a', (b', (0, ())))).bind fun y1 => (match y1 with | .inl () => (some (true, ())) | .inr ⟨y2, ()⟩ => (some (y2, ())))))
def N20 : A20 → Option B20 := M20 (itrs R20_0)
def C20 : Ctr τ := ⟨i20, o20, N20, 0⟩
theorem g20 : GOK κ Try.prog (G20) := gok_nil
theorem le20_0 : ∀ x, Q20_0 x = run Try.prog κ (G20) (tabL []) 0 (loopAt Try.f20 0) (li20_0.build x) (rnd li20_0 lo20_0) := fun x => by kernel_rfl
theorem linner20_0 : ∀ Z : Zn, Z.rl = [] → 26 ≤ Z.nt → ∀ p ∈ loops 0 (loopAt Try.f20 0), ∀ C, (tabL []) p.1 = some C → LoopOK κ Try.prog Z p.2 C := fun Z h n => fun p hp => (by cases (show p ∈ ([] : List (Nat × Code)) from hp))
theorem lk20_0 : ∀ Z : Zn, Z.rl = [] → 26 ≤ Z.nt → LoopOK κ Try.prog Z (loopAt Try.f20 0) L20_0 := fun Z h n => loop_ok (S := (tabL [])) R20_0 (by kernel_rfl) g20 (by rw [h]; exact dsts_mono n _ (by kernel_rfl)) (linner20_0 Z h n) (by kernel_rfl) (by kernel_rfl) (le20_0) itrs_rounds
theorem lall20 : ∀ Z : Zn, Z.rl = C20.o.keeps → Try.f20.ntmps ≤ Z.nt → ∀ p ∈ loops 0 (bodyOf Try.f20), ∀ C, (tabL [(0, L20_0)]) p.1 = some C → LoopOK κ Try.prog Z p.2 C := fun Z h n => all_loops [(0, loopAt Try.f20 0)] (by kernel_rfl) (all_cons (fun C hC => (Option.some.inj hC : L20_0 = C) ▸ lk20_0 Z h n) (fun _ h => by cases h))
theorem e20 : ∀ (l20_0 : LA20_0 → Option LB20_0) x, M20 l20_0 x = fnE Try.prog κ (G20) (tabL [(0, (⟨li20_0, l20_0, lo20_0⟩ : Lc τ))]) Try.f20 i20 o20 x := fun l20_0 x => by kernel_rfl
theorem s20 : Sound κ Try.prog C20 20 := fn_sound (S := (tabL [(0, L20_0)])) (F := Try.f20) (code := bodyOf Try.f20) (by kernel_rfl) g20 Try.func20 (by kernel_rfl) (by kernel_rfl) (by kernel_rfl) lall20 (by kernel_rfl) (by kernel_rfl) fun x y h => (e20 (itrs R20_0) x).symm.trans h
end Go.Proofs.Ytdcfpgkgaaobhaa.E
namespace Go.Proofs.Ytdcfpgkgaaobhaa.E
open Go
set_option linter.unusedVariables false
set_option maxRecDepth 100000
abbrev A6 : Type := ((List T30) × Unit)
abbrev B6 : Type := (Bool × Unit)
def i6 : Fr τ A6 := (.val 0 (.sl 30) .nil)
def o6 : Fr τ B6 := (.val 1000 .bool .nil)
def G6 (c7 : A7 → Option B7) (c8 : A8 → Option B8) (c9 : A9 → Option B9) (c16 : A16 → Option B16) (c10 : A10 → Option B10) (c11 : A11 → Option B11) (c20 : A20 → Option B20) : Nat → Option (Ctr τ) := tabG [(7, (⟨i7, o7, c7, 0⟩ : Ctr τ)), (8, (⟨i8, o8, c8, 0⟩ : Ctr τ)), (9, (⟨i9, o9, c9, 0⟩ : Ctr τ)), (16, (⟨i16, o16, c16, 0⟩ : Ctr τ)), (10, (⟨i10, o10, c10, 0⟩ : Ctr τ)), (11, (⟨i11, o11, c11, 0⟩ : Ctr τ)), (20, (⟨i20, o20, c20, 0⟩ : Ctr τ))]
abbrev LA6_2 : Type := ((List T30) × (List T30 × (Int × Unit)) × (List T30 × (Int × Unit)) × (List T30 × (Int × Unit)) × Int × Int × (List T30) × Int × Unit)
abbrev LB6_2 : Type := ((List T30) × (List T30 × (Int × Unit)) × (List T30 × (Int × Unit)) × (List T30 × (Int × Unit)) × Int × Int × (List T30) × Unit)
def li6_2 : Fr τ LA6_2 := (.val 0 (.sl 30) (.ptr 3 none 50 (.own 30 (.val (.int .i64) .nil)) (.ptr 4 none 50 (.own 30 (.val (.int .i64) .nil)) (.ptr 5 none 50 (.own 30 (.val (.int .i64) .nil)) (.val 6 (.int .i64) (.val 7 (.int .i64) (.own 12 30 (.val 13 (.int .i64) .nil))))))))
def lo6_2 : Ot τ LB6_2 := .one (.exit 2) (.val 0 (.sl 30) (.ptr 3 none 50 (.own 30 (.val (.int .i64) .nil)) (.ptr 4 none 50 (.own 30 (.val (.int .i64) .nil)) (.ptr 5 none 50 (.own 30 (.val (.int .i64) .nil)) (.val 6 (.int .i64) (.val 7 (.int .i64) (.own 12 30 .nil)))))))
def Q6_2 (c7 : A7 → Option B7) (c8 : A8 → Option B8) (c9 : A9 → Option B9) (c16 : A16 → Option B16) (c10 : A10 → Option B10) (c11 : A11 → Option B11) (c20 : A20 → Option B20) : LA6_2 → Option (LA6_2 ⊕ LB6_2) := fun ⟨list', ⟨⟨a'_0, ⟨a'_1, ()⟩⟩, ⟨⟨b'_0, ⟨b'_1, ()⟩⟩, ⟨⟨c'_0, ⟨c'_1, ()⟩⟩, ⟨last', ⟨i', ⟨l', ⟨k', ()⟩⟩⟩⟩⟩⟩⟩⟩ => (let v0 : Int := ↑(List.length l'); bif decide (k' < v0) then ((bif decide (0 ≤ k') && decide (k' < v0) then some () else none).bind fun () => ((((l'[Int.toNat k']?).bind fun ⟨y42_0, ⟨y42_1, ⟨y42_2, y42_3⟩⟩⟩ => (some (-7, (y42_1, (y42_2, y42_3))))) : (Option (Int × (Int × (ByteArray × Int))))).bind fun ⟨y2_0, ⟨y2_1, ⟨y2_2, y2_3⟩⟩⟩ => (let v1 : Int := k' + 1; let v2 : Int := IntKind.wrap IntKind.i64 v1; some (.inl (list', ((a'_0, (a'_1, ())), ((b'_0, (b'_1, ())), ((c'_0, (c'_1, ())), (last', (i', (List.set l' (Int.toNat k') (y2_0, y2_1, y2_2, y2_3), (v2, ())))))))))))) else (some (.inr (list', ((a'_0, (a'_1, ())), ((b'_0, (b'_1, ())), ((c'_0, (c'_1, ())), (last', (i', (l', ()))))))))))
def R6_2 : LA6_2 → Option (LA6_2 ⊕ LB6_2) := Q6_2 N7 N8 N9 N16 N10 N11 N20
def L6_2 : Lc τ := ⟨li6_2, itrs R6_2, lo6_2⟩
abbrev LA6_0 : Type := ((List T30) × (List T30 × (Int × Unit)) × (List T30 × (Int × Unit)) × (List T30 × (Int × Unit)) × Int × Int × Unit)
abbrev LB6_0 : Type := ((List T30 × (Int × Unit)) × (List T30 × (Int × Unit)) × (List T30 × (Int × Unit)) × Unit) ⊕ (Bool × Unit)
def li6_0 : Fr τ LA6_0 := (.val 0 (.sl 30) (.ptr 3 none 50 (.own 30 (.val (.int .i64) .nil)) (.ptr 4 none 50 (.own 30 (.val (.int .i64) .nil)) (.ptr 5 none 50 (.own 30 (.val (.int .i64) .nil)) (.val 6 (.int .i64) (.val 7 (.int .i64) .nil))))))
def lo6_0 : Ot τ LB6_0 := .alt (.exit 0) (.ptr 3 none 50 (.own 30 (.val (.int .i64) .nil)) (.ptr 4 none 50 (.own 30 (.val (.int .i64) .nil)) (.ptr 5 none 50 (.own 30 (.val (.int .i64) .nil)) .nil))) (.one .ret (.val 2 .bool .nil))
def Q6_0 (c7 : A7 → Option B7) (c8 : A8 → Option B8) (c9 : A9 → Option B9) (c16 : A16 → Option B16) (c10 : A10 → Option B10) (c11 : A11 → Option B11) (c20 : A20 → Option B20) (l6_2 : LA6_2 → Option LB6_2) : LA6_0 → Option (LA6_0 ⊕ LB6_0) := fun ⟨list', ⟨⟨a'_0, ⟨a'_1, ()⟩⟩, ⟨⟨b'_0, ⟨b'_1, ()⟩⟩, ⟨⟨c'_0, ⟨c'_1, ()⟩⟩, ⟨last', ⟨i', ()⟩⟩⟩⟩⟩⟩ => (let v0 : Int := ↑(List.length list'); bif decide (i' < v0) then (bif decide (i' < 600) then ((bif decide (0 ≤ i') then list'[Int.toNat i']? else none).bind fun ⟨y2_0, ⟨y2_1, ⟨y2_2, y2_3⟩⟩⟩ => ((bif decide (0 ≤ i') then list'[Int.toNat i']? else none).bind fun ⟨y3_0, ⟨y3_1, ⟨y3_2, y3_3⟩⟩⟩ => ((bif decide (0 ≤ i') then list'[Int.toNat i']? else none).bind fun ⟨y4_0, ⟨y4_1, ⟨y4_2, y4_3⟩⟩⟩ => ((c9 ((a'_0, (a'_1, ())), (y2_0, (y3_1, (y4_2, ()))))).bind fun ⟨y5_0, ⟨y5_1, ⟨⟨y5_2, ⟨y5_3, ()⟩⟩, ()⟩⟩⟩ => ((bif decide (0 ≤ i') then list'[Int.toNat i']? else none).bind fun ⟨y6_0, ⟨y6_1, ⟨y6_2, y6_3⟩⟩⟩ => ((bif decide (0 ≤ i') then list'[Int.toNat i']? else none).bind fun ⟨y7_0, ⟨y7_1, ⟨y7_2, y7_3⟩⟩⟩ => ((bif decide (0 ≤ i') then list'[Int.toNat i']? else none).bind fun ⟨y8_0, ⟨y8_1, ⟨y8_2, y8_3⟩⟩⟩ => ((c9 ((b'_0, (b'_1, ())), (y6_0, (y7_1, (y8_2, ()))))).bind fun ⟨y9_0, ⟨y9_1, ⟨⟨y9_2, ⟨y9_3, ()⟩⟩, ()⟩⟩⟩ => (bif y5_0 != y9_0 then (some (.inr (.inr (false, ())))) else (bif y5_1 != y9_1 then (some (.inr (.inr (false, ())))) else (bif y5_1 == 0 then (let v1 : Int := last' + 1; let v2 : Int := IntKind.wrap IntKind.i64 v1; bif y5_0 != v2 then (some (.inr (.inr (false, ())))) else (bif y5_1 == 0 then (let v3 : Int := Int.tmod i' 3; bif v3 == 2 then (bif decide (y5_0 > 0) then ((c16 ((y5_2, (y5_3, ())), (y5_0, ()))).bind fun ⟨y17_0, ⟨⟨y17_1, ⟨y17_2, ()⟩⟩, ()⟩⟩ => ((c16 ((y9_2, (y9_3, ())), (y5_0, ()))).bind fun ⟨y18_0, ⟨⟨y18_1, ⟨y18_2, ()⟩⟩, ()⟩⟩ => (bif !y17_0 == y18_0 then (some (.inr (.inr (false, ())))) else ((c10 ((y17_1, y17_2), ())).bind fun ⟨y20, ()⟩ => ((l6_2 (list', ((y17_1, (y17_2, ())), ((y18_1, (y18_2, ())), ((c'_0, (c'_1, ())), (y5_0, (i', (y20, (0, ()))))))))).bind fun ⟨y21_0, ⟨⟨y21_1, ⟨y21_2, ()⟩⟩, ⟨⟨y21_3, ⟨y21_4, ()⟩⟩, ⟨⟨y21_5, ⟨y21_6, ()⟩⟩, ⟨y21_7, ⟨y21_8, ⟨y21_9, ()⟩⟩⟩⟩⟩⟩⟩ => ((bif decide ((List.length y21_9 + 1) * 40 ≤ 210000000000000) then some () else none).bind fun () => ((c11 ((y21_3, (y21_4, ())), ())).bind fun ⟨y23_0, ⟨⟨y23_1, ⟨y23_2, ()⟩⟩, ()⟩⟩ => (let v4 : Int := ↑(List.length (y21_9 ++ [(-7, 0, { data := #[] }, 0)])); let v5 : Int := y23_0 + 1; let v6 : Int := IntKind.wrap IntKind.i64 v5; bif v4 != v6 then (some (.inr (.inr (false, ())))) else (let v7 : Int := Int.tmod y21_8 8; bif v7 == 0 then ((c10 ((y21_1, y21_2), ())).bind fun ⟨y26, ()⟩ => ((c10 ((y23_1, y23_2), ())).bind fun ⟨y27, ()⟩ => ((c20 (y26, (y27, ()))).bind fun ⟨y28, ()⟩ => (bif !y28 then (some (.inr (.inr (false, ())))) else (let v8 : Int := y21_8 + 1; let v9 : Int := IntKind.wrap IntKind.i64 v8; some (.inl (y21_0, ((y21_1, (y21_2, ())), ((y23_1, (y23_2, ())), ((y21_5, (y21_6, ())), (y21_7, (v9, ())))))))))))) else (let v8 : Int := y21_8 + 1; let v9 : Int := IntKind.wrap IntKind.i64 v8; some (.inl (y21_0, ((y21_1, (y21_2, ())), ((y23_1, (y23_2, ())), ((y21_5, (y21_6, ())), (y21_7, (v9, ()))))))))))))))))) else ((c10 ((y5_2, y5_3), ())).bind fun ⟨y17, ()⟩ => ((l6_2 (list', ((y5_2, (y5_3, ())), ((y9_2, (y9_3, ())), ((c'_0, (c'_1, ())), (y5_0, (i', (y17, (0, ()))))))))).bind fun ⟨y18_0, ⟨⟨y18_1, ⟨y18_2, ()⟩⟩, ⟨⟨y18_3, ⟨y18_4, ()⟩⟩, ⟨⟨y18_5, ⟨y18_6, ()⟩⟩, ⟨y18_7, ⟨y18_8, ⟨y18_9, ()⟩⟩⟩⟩⟩⟩⟩ => ((bif decide ((List.length y18_9 + 1) * 40 ≤ 210000000000000) then some () else none).bind fun () => ((c11 ((y18_3, (y18_4, ())), ())).bind fun ⟨y20_0, ⟨⟨y20_1, ⟨y20_2, ()⟩⟩, ()⟩⟩ => (let v4 : Int := ↑(List.length (y18_9 ++ [(-7, 0, { data := #[] }, 0)])); let v5 : Int := y20_0 + 1; let v6 : Int := IntKind.wrap IntKind.i64 v5; bif v4 != v6 then (some (.inr (.inr (false, ())))) else (let v7 : Int := Int.tmod y18_8 8; bif v7 == 0 then ((c10 ((y18_1, y18_2), ())).bind fun ⟨y23, ()⟩ => ((c10 ((y20_1, y20_2), ())).bind fun ⟨y24, ()⟩ => ((c20 (y23, (y24, ()))).bind fun ⟨y25, ()⟩ => (bif !y25 then (some (.inr (.inr (false, ())))) else (let v8 : Int := y18_8 + 1; let v9 : Int := IntKind.wrap IntKind.i64 v8; some (.inl (y18_0, ((y18_1, (y18_2, ())), ((y20_1, (y20_2, ())), ((y18_5, (y18_6, ())), (y18_7, (v9, ())))))))))))) else (let v8 : Int := y18_8 + 1; let v9 : Int := IntKind.wrap IntKind.i64 v8; some (.inl (y18_0, ((y18_1, (y18_2, ())), ((y20_1, (y20_2, ())), ((y18_5, (y18_6, ())), (y18_7, (v9, ()))))))))))))))) else ((c10 ((y5_2, y5_3), ())).bind fun ⟨y16, ()⟩ => ((l6_2 (list', ((y5_2, (y5_3, ())), ((y9_2, (y9_3, ())), ((c'_0, (c'_1, ())), (y5_0, (i', (y16, (0, ()))))))))).bind fun ⟨y17_0, ⟨⟨y17_1, ⟨y17_2, ()⟩⟩, ⟨⟨y17_3, ⟨y17_4, ()⟩⟩, ⟨⟨y17_5, ⟨y17_6, ()⟩⟩, ⟨y17_7, ⟨y17_8, ⟨y17_9, ()⟩⟩⟩⟩⟩⟩⟩ => ((bif decide ((List.length y17_9 + 1) * 40 ≤ 210000000000000) then some () else none).bind fun () => ((c11 ((y17_3, (y17_4, ())), ())).bind fun ⟨y19_0, ⟨⟨y19_1, ⟨y19_2, ()⟩⟩, ()⟩⟩ => (let v4 : Int := ↑(List.length (y17_9 ++ [(-7, 0, { data := #[] }, 0)])); let v5 : Int := y19_0 + 1; let v6 : Int := IntKind.wrap IntKind.i64 v5; bif v4 != v6 then (some (.inr (.inr (false, ())))) else (let v7 : Int := Int.tmod y17_8 8; bif v7 == 0 then ((c10 ((y17_1, y17_2), ())).bind fun ⟨y22, ()⟩ => ((c10 ((y19_1, y19_2), ())).bind fun ⟨y23, ()⟩ => ((c20 (y22, (y23, ()))).bind fun ⟨y24, ()⟩ => (bif !y24 then (some (.inr (.inr (false, ())))) else (let v8 : Int := y17_8 + 1; let v9 : Int := IntKind.wrap IntKind.i64 v8; some (.inl (y17_0, ((y17_1, (y17_2, ())), ((y19_1, (y19_2, ())), ((y17_5, (y17_6, ())), (y17_7, (v9, ())))))))))))) else (let v8 : Int := y17_8 + 1; let v9 : Int := IntKind.wrap IntKind.i64 v8; some (.inl (y17_0, ((y17_1, (y17_2, ())), ((y19_1, (y19_2, ())), ((y17_5, (y17_6, ())), (y17_7, (v9, ()))))))))))))))) else (let v3 : Int := Int.tmod i' 3; bif v3 == 2 then (bif decide (last' > 0) then ((c16 ((y5_2, (y5_3, ())), (last', ()))).bind fun ⟨y17_0, ⟨⟨y17_1, ⟨y17_2, ()⟩⟩, ()⟩⟩ => ((c16 ((y9_2, (y9_3, ())), (last', ()))).bind fun ⟨y18_0, ⟨⟨y18_1, ⟨y18_2, ()⟩⟩, ()⟩⟩ => (bif !y17_0 == y18_0 then (some (.inr (.inr (false, ())))) else ((c10 ((y17_1, y17_2), ())).bind fun ⟨y20, ()⟩ => ((l6_2 (list', ((y17_1, (y17_2, ())), ((y18_1, (y18_2, ())), ((c'_0, (c'_1, ())), (last', (i', (y20, (0, ()))))))))).bind fun ⟨y21_0, ⟨⟨y21_1, ⟨y21_2, ()⟩⟩, ⟨⟨y21_3, ⟨y21_4, ()⟩⟩, ⟨⟨y21_5, ⟨y21_6, ()⟩⟩, ⟨y21_7, ⟨y21_8, ⟨y21_9, ()⟩⟩⟩⟩⟩⟩⟩ => ((bif decide ((List.length y21_9 + 1) * 40 ≤ 210000000000000) then some () else none).bind fun () => ((c11 ((y21_3, (y21_4, ())), ())).bind fun ⟨y23_0, ⟨⟨y23_1, ⟨y23_2, ()⟩⟩, ()⟩⟩ => (let v4 : Int := ↑(List.length (y21_9 ++ [(-7, 0, { data := #[] }, 0)])); let v5 : Int := y23_0 + 1; let v6 : Int := IntKind.wrap IntKind.i64 v5; bif v4 != v6 then (some (.inr (.inr (false, ())))) else (let v7 : Int := Int.tmod y21_8 8; bif v7 == 0 then ((c10 ((y21_1, y21_2), ())).bind fun ⟨y26, ()⟩ => ((c10 ((y23_1, y23_2), ())).bind fun ⟨y27, ()⟩ => ((c20 (y26, (y27, ()))).bind fun ⟨y28, ()⟩ => (bif !y28 then (some (.inr (.inr (false, ())))) else (let v8 : Int := y21_8 + 1; let v9 : Int := IntKind.wrap IntKind.i64 v8; some (.inl (y21_0, ((y21_1, (y21_2, ())), ((y23_1, (y23_2, ())), ((y21_5, (y21_6, ())), (y21_7, (v9, ())))))))))))) else (let v8 : Int := y21_8 + 1; let v9 : Int := IntKind.wrap IntKind.i64 v8; some (.inl (y21_0, ((y21_1, (y21_2, ())), ((y23_1, (y23_2, ())), ((y21_5, (y21_6, ())), (y21_7, (v9, ()))))))))))))))))) else ((c10 ((y5_2, y5_3), ())).bind fun ⟨y17, ()⟩ => ((l6_2 (list', ((y5_2, (y5_3, ())), ((y9_2, (y9_3, ())), ((c'_0, (c'_1, ())), (last', (i', (y17, (0, ()))))))))).bind fun ⟨y18_0, ⟨⟨y18_1, ⟨y18_2, ()⟩⟩, ⟨⟨y18_3, ⟨y18_4, ()⟩⟩, ⟨⟨y18_5, ⟨y18_6, ()⟩⟩, ⟨y18_7, ⟨y18_8, ⟨y18_9, ()⟩⟩⟩⟩⟩⟩⟩ => ((bif decide ((List.length y18_9 + 1) * 40 ≤ 210000000000000) then some () else none).bind fun () => ((c11 ((y18_3, (y18_4, ())), ())).bind fun ⟨y20_0, ⟨⟨y20_1, ⟨y20_2, ()⟩⟩, ()⟩⟩ => (let v4 : Int := ↑(List.length (y18_9 ++ [(-7, 0, { data := #[] }, 0)])); let v5 : Int := y20_0 + 1; let v6 : Int := IntKind.wrap IntKind.i64 v5; bif v4 != v6 then (some (.inr (.inr (false, ())))) else (let v7 : Int := Int.tmod y18_8 8; bif v7 == 0 then ((c10 ((y18_1, y18_2), ())).bind fun ⟨y23, ()⟩ => ((c10 ((y20_1, y20_2), ())).bind fun ⟨y24, ()⟩ => ((c20 (y23, (y24, ()))).bind fun ⟨y25, ()⟩ => (bif !y25 then (some (.inr (.inr (false, ())))) else (let v8 : Int := y18_8 + 1; let v9 : Int := IntKind.wrap IntKind.i64 v8; some (.inl (y18_0, ((y18_1, (y18_2, ())), ((y20_1, (y20_2, ())), ((y18_5, (y18_6, ())), (y18_7, (v9, ())))))))))))) else (let v8 : Int := y18_8 + 1; let v9 : Int := IntKind.wrap IntKind.i64 v8; some (.inl (y18_0, ((y18_1, (y18_2, ())), ((y20_1, (y20_2, ())), ((y18_5, (y18_6, ())), (y18_7, (v9, ()))))))))))))))) else ((c10 ((y5_2, y5_3), ())).bind fun ⟨y16, ()⟩ => ((l6_2 (list', ((y5_2, (y5_3, ())), ((y9_2, (y9_3, ())), ((c'_0, (c'_1, ())), (last', (i', (y16, (0, ()))))))))).bind fun ⟨y17_0, ⟨⟨y17_1, ⟨y17_2, ()⟩⟩, ⟨⟨y17_3, ⟨y17_4, ()⟩⟩, ⟨⟨y17_5, ⟨y17_6, ()⟩⟩, ⟨y17_7, ⟨y17_8, ⟨y17_9, ()⟩⟩⟩⟩⟩⟩⟩ => ((bif decide ((List.length y17_9 + 1) * 40 ≤ 210000000000000) then some () else none).bind fun () => ((c11 ((y17_3, (y17_4, ())), ())).bind fun ⟨y19_0, ⟨⟨y19_1, ⟨y19_2, ()⟩⟩, ()⟩⟩ => (let v4 : Int := ↑(List.length (y17_9 ++ [(-7, 0, { data := #[] }, 0)])); let v5 : Int := y19_0 + 1; let v6 : Int := IntKind.wrap IntKind.i64 v5; bif v4 != v6 then (some (.inr (.inr (false, ())))) else (let v7 : Int := Int.tmod y17_8 8; bif v7 == 0 then ((c10 ((y17_1, y17_2), ())).bind fun ⟨y22, ()⟩ => ((c10 ((y19_1, y19_2), ())).bind fun ⟨y23, ()⟩ => ((c20 (y22, (y23, ()))).bind fun ⟨y24, ()⟩ => (bif !y24 then (some (.inr (.inr (false, ())))) else (let v8 : Int := y17_8 + 1; let v9 : Int := IntKind.wrap IntKind.i64 v8; some (.inl (y17_0, ((y17_1, (y17_2, ())), ((y19_1, (y19_2, ())), ((y17_5, (y17_6, ())), (y17_7, (v9, ())))))))))))) else (let v8 : Int := y17_8 + 1; let v9 : Int := IntKind.wrap IntKind.i64 v8; some (.inl (y17_0, ((y17_1, (y17_2, ())), ((y19_1, (y19_2, ())), ((y17_5, (y17_6, ())), (y17_7, (v9, ()))))))))))))))))) else (bif y5_1 == 0 then (let v1 : Int := Int.tmod i' 3; bif v1 == 2 then (bif decide (y5_0 > 0) then ((c16 ((y5_2, (y5_3, ())), (y5_0, ()))).bind fun ⟨y16_0, ⟨⟨y16_1, ⟨y16_2, ()⟩⟩, ()⟩⟩ => ((c16 ((y9_2, (y9_3, ())), (y5_0, ()))).bind fun ⟨y17_0, ⟨⟨y17_1, ⟨y17_2, ()⟩⟩, ()⟩⟩ => (bif !y16_0 == y17_0 then (some (.inr (.inr (false, ())))) else ((c10 ((y16_1, y16_2), ())).bind fun ⟨y19, ()⟩ => ((l6_2 (list', ((y16_1, (y16_2, ())), ((y17_1, (y17_2, ())), ((c'_0, (c'_1, ())), (y5_0, (i', (y19, (0, ()))))))))).bind fun ⟨y20_0, ⟨⟨y20_1, ⟨y20_2, ()⟩⟩, ⟨⟨y20_3, ⟨y20_4, ()⟩⟩, ⟨⟨y20_5, ⟨y20_6, ()⟩⟩, ⟨y20_7, ⟨y20_8, ⟨y20_9, ()⟩⟩⟩⟩⟩⟩⟩ => ((bif decide ((List.length y20_9 + 1) * 40 ≤ 210000000000000) then some () else none).bind fun () => ((c11 ((y20_3, (y20_4, ())), ())).bind fun ⟨y22_0, ⟨⟨y22_1, ⟨y22_2, ()⟩⟩, ()⟩⟩ => (let v2 : Int := ↑(List.length (y20_9 ++ [(-7, 0, { data := #[] }, 0)])); let v3 : Int := y22_0 + 1; let v4 : Int := IntKind.wrap IntKind.i64 v3; bif v2 != v4 then (some (.inr (.inr (false, ())))) else (let v5 : Int := Int.tmod y20_8 8; bif v5 == 0 then ((c10 ((y20_1, y20_2), ())).bind fun ⟨y25, ()⟩ => ((c10 ((y22_1, y22_2), ())).bind fun ⟨y26, ()⟩ => ((c20 (y25, (y26, ()))).bind fun ⟨y27, ()⟩ => (bif !y27 then (some (.inr (.inr (false, ())))) else (let v6 : Int := y20_8 + 1; let v7 : Int := IntKind.wrap IntKind.i64 v6; some (.inl (y20_0, ((y20_1, (y20_2, ())), ((y22_1, (y22_2, ())), ((y20_5, (y20_6, ())), (y20_7, (v7, ())))))))))))) else (let v6 : Int := y20_8 + 1; let v7 : Int := IntKind.wrap IntKind.i64 v6; some (.inl (y20_0, ((y20_1, (y20_2, ())), ((y22_1, (y22_2, ())), ((y20_5, (y20_6, ())), (y20_7, (v7, ()))))))))))))))))) else ((c10 ((y5_2, y5_3), ())).bind fun ⟨y16, ()⟩ => ((l6_2 (list', ((y5_2, (y5_3, ())), ((y9_2, (y9_3, ())), ((c'_0, (c'_1, ())), (y5_0, (i', (y16, (0, ()))))))))).bind fun ⟨y17_0, ⟨⟨y17_1, ⟨y17_2, ()⟩⟩, ⟨⟨y17_3, ⟨y17_4, ()⟩⟩, ⟨⟨y17_5, ⟨y17_6, ()⟩⟩, ⟨y17_7, ⟨y17_8, ⟨y17_9, ()⟩⟩⟩⟩⟩⟩⟩ => ((bif decide ((List.length y17_9 + 1) * 40 ≤ 210000000000000) then some () else none).bind fun () => ((c11 ((y17_3, (y17_4, ())), ())).bind fun ⟨y19_0, ⟨⟨y19_1, ⟨y19_2, ()⟩⟩, ()⟩⟩ => (let v2 : Int := ↑(List.length (y17_9 ++ [(-7, 0, { data := #[] }, 0)])); let v3 : Int := y19_0 + 1; let v4 : Int := IntKind.wrap IntKind.i64 v3; bif v2 != v4 then (some (.inr (.inr (false, ())))) else (let v5 : Int := Int.tmod y17_8 8; bif v5 == 0 then ((c10 ((y17_1, y17_2), ())).bind fun ⟨y22, ()⟩ => ((c10 ((y19_1, y19_2), ())).bind fun ⟨y23, ()⟩ => ((c20 (y22, (y23, ()))).bind fun ⟨y24, ()⟩ => (bif !y24 then (some (.inr (.inr (false, ())))) else (let v6 : Int := y17_8 + 1; let v7 : Int := IntKind.wrap IntKind.i64 v6; some (.inl (y17_0, ((y17_1, (y17_2, ())), ((y19_1, (y19_2, ())), ((y17_5, (y17_6, ())), (y17_7, (v7, ())))))))))))) else (let v6 : Int := y17_8 + 1; let v7 : Int := IntKind.wrap IntKind.i64 v6; some (.inl (y17_0, ((y17_1, (y17_2, ())), ((y19_1, (y19_2, ())), ((y17_5, (y17_6, ())), (y17_7, (v7, ()))))))))))))))) else ((c10 ((y5_2, y5_3), ())).bind fun ⟨y15, ()⟩ => ((l6_2 (list', ((y5_2, (y5_3, ())), ((y9_2, (y9_3, ())), ((c'_0, (c'_1, ())), (y5_0, (i', (y15, (0, ()))))))))).bind fun ⟨y16_0, ⟨⟨y16_1, ⟨y16_2, ()⟩⟩, ⟨⟨y16_3, ⟨y16_4, ()⟩⟩, ⟨⟨y16_5, ⟨y16_6, ()⟩⟩, ⟨y16_7, ⟨y16_8, ⟨y16_9, ()⟩⟩⟩⟩⟩⟩⟩ => ((bif decide ((List.length y16_9 + 1) * 40 ≤ 210000000000000) then some () else none).bind fun () => ((c11 ((y16_3, (y16_4, ())), ())).bind fun ⟨y18_0, ⟨⟨y18_1, ⟨y18_2, ()⟩⟩, ()⟩⟩ => (let v2 : Int := ↑(List.length (y16_9 ++ [(-7, 0, { data := #[] }, 0)])); let v3 : Int := y18_0 + 1; let v4 : Int := IntKind.wrap IntKind.i64 v3; bif v2 != v4 then (some (.inr (.inr (false, ())))) else (let v5 : Int := Int.tmod y16_8 8; bif v5 == 0 then ((c10 ((y16_1, y16_2), ())).bind fun ⟨y21, ()⟩ => ((c10 ((y18_1, y18_2), ())).bind fun ⟨y22, ()⟩ => ((c20 (y21, (y22, ()))).bind fun ⟨y23, ()⟩ => (bif !y23 then (some (.inr (.inr (false, ())))) else (let v6 : Int := y16_8 + 1; let v7 : Int := IntKind.wrap IntKind.i64 v6; some (.inl (y16_0, ((y16_1, (y16_2, ())), ((y18_1, (y18_2, ())), ((y16_5, (y16_6, ())), (y16_7, (v7, ())))))))))))) else (let v6 : Int := y16_8 + 1; let v7 : Int := IntKind.wrap IntKind.i64 v6; some (.inl (y16_0, ((y16_1, (y16_2, ())), ((y18_1, (y18_2, ())), ((y16_5, (y16_6, ())), (y16_7, (v7, ()))))))))))))))) else (let v1 : Int := Int.tmod i' 3; bif v1 == 2 then (bif decide (last' > 0) then ((c16 ((y5_2, (y5_3, ())), (last', ()))).bind fun ⟨y16_0, ⟨⟨y16_1, ⟨y16_2, ()⟩⟩, ()⟩⟩ => ((c16 ((y9_2, (y9_3, ())), (last', ()))).bind fun ⟨y17_0, ⟨⟨y17_1, ⟨y17_2, ()⟩⟩, ()⟩⟩ => (bif !y16_0 == y17_0 then (some (.inr (.inr (false, ())))) else ((c10 ((y16_1, y16_2), ())).bind fun ⟨y19, ()⟩ => ((l6_2 (list', ((y16_1, (y16_2, ())), ((y17_1, (y17_2, ())), ((c'_0, (c'_1, ())), (last', (i', (y19, (0, ()))))))))).bind fun ⟨y20_0, ⟨⟨y20_1, ⟨y20_2, ()⟩⟩, ⟨⟨y20_3, ⟨y20_4, ()⟩⟩, ⟨⟨y20_5, ⟨y20_6, ()⟩⟩, ⟨y20_7, ⟨y20_8, ⟨y20_9, ()⟩⟩⟩⟩⟩⟩⟩ => ((bif decide ((List.length y20_9 + 1) * 40 ≤ 210000000000000) then some () else none).bind fun () => ((c11 ((y20_3, (y20_4, ())), ())).bind fun ⟨y22_0, ⟨⟨y22_1, ⟨y22_2, ()⟩⟩, ()⟩⟩ => (let v2 : Int := ↑(List.length (y20_9 ++ [(-7, 0, { data := #[] }, 0)])); let v3 : Int := y22_0 + 1; let v4 : Int := IntKind.wrap IntKind.i64 v3; bif v2 != v4 then (some (.inr (.inr (false, ())))) else (let v5 : Int := Int.tmod y20_8 8; bif v5 == 0 then ((c10 ((y20_1, y20_2), ())).bind fun ⟨y25, ()⟩ => ((c10 ((y22_1, y22_2), ())).bind fun ⟨y26, ()⟩ => ((c20 (y25, (y26, ()))).bind fun ⟨y27, ()⟩ => (bif !y27 then (some (.inr (.inr (false, ())))) else (let v6 : Int := y20_8 + 1; let v7 : Int := IntKind.wrap IntKind.i64 v6; some (.inl (y20_0, ((y20_1, (y20_2, ())), ((y22_1, (y22_2, ())), ((y20_5, (y20_6, ())), (y20_7, (v7, ())))))))))))) else (let v6 : Int := y20_8 + 1; let v7 : Int := IntKind.wrap IntKind.i64 v6; some (.inl (y20_0, ((y20_1, (y20_2, ())), ((y22_1, (y22_2, ())), ((y20_5, (y20_6, ())), (y20_7, (v7, ()))))))))))))))))) else ((c10 ((y5_2, y5_3), ())).bind fun ⟨y16, ()⟩ => ((l6_2 (list', ((y5_2, (y5_3, ())), ((y9_2, (y9_3, ())), ((c'_0, (c'_1, ())), (last', (i', (y16, (0, ()))))))))).bind fun ⟨y17_0, ⟨⟨y17_1, ⟨y17_2, ()⟩⟩, ⟨⟨y17_3, ⟨y17_4, ()⟩⟩, ⟨⟨y17_5, ⟨y17_6, ()⟩⟩, ⟨y17_7, ⟨y17_8, ⟨y17_9, ()⟩⟩⟩⟩⟩⟩⟩ => ((bif decide ((List.length y17_9 + 1) * 40 ≤ 210000000000000) then some () else none).bind fun () => ((c11 ((y17_3, (y17_4, ())), ())).bind fun ⟨y19_0, ⟨⟨y19_1, ⟨y19_2, ()⟩⟩, ()⟩⟩ => (let v2 : Int := ↑(List.length (y17_9 ++ [(-7, 0, { data := #[] }, 0)])); let v3 : Int := y19_0 + 1; let v4 : Int := IntKind.wrap IntKind.i64 v3; bif v2 != v4 then (some (.inr (.inr (false, ())))) else (let v5 : Int := Int.tmod y17_8 8; bif v5 == 0 then ((c10 ((y17_1, y17_2), ())).bind fun ⟨y22, ()⟩ => ((c10 ((y19_1, y19_2), ())).bind fun ⟨y23, ()⟩ => ((c20 (y22, (y23, ()))).bind fun ⟨y24, ()⟩ => (bif !y24 then (some (.inr (.inr (false, ())))) else (let v6 : Int := y17_8 + 1; let v7 : Int := IntKind.wrap IntKind.i64 v6; some (.inl (y17_0, ((y17_1, (y17_2, ())), ((y19_1, (y19_2, ())), ((y17_5, (y17_6, ())), (y17_7, (v7, ())))))))))))) else (let v6 : Int := y17_8 + 1; let v7 : Int := IntKind.wrap IntKind.i64 v6; some (.inl (y17_0, ((y17_1, (y17_2, ())), ((y19_1, (y19_2, ())), ((y17_5, (y17_6, ())), (y17_7, (v7, ()))))))))))))))) else ((c10 ((y5_2, y5_3), ())).bind fun ⟨y15, ()⟩ => ((l6_2 (list', ((y5_2, (y5_3, ())), ((y9_2, (y9_3, ())), ((c'_0, (c'_1, ())), (last', (i', (y15, (0, ()))))))))).bind fun ⟨y16_0, ⟨⟨y16_1, ⟨y16_2, ()⟩⟩, ⟨⟨y16_3, ⟨y16_4, ()⟩⟩, ⟨⟨y16_5, ⟨y16_6, ()⟩⟩, ⟨y16_7, ⟨y16_8, ⟨y16_9, ()⟩⟩⟩⟩⟩⟩⟩ => ((bif decide ((List.length y16_9 + 1) * 40 ≤ 210000000000000) then some () else none).bind fun () => ((c11 ((y16_3, (y16_4, ())), ())).bind fun ⟨y18_0, ⟨⟨y18_1, ⟨y18_2, ()⟩⟩, ()⟩⟩ => (let v2 : Int := ↑(List.length (y16_9 ++ [(-7, 0, { data := #[] }, 0)])); let v3 : Int := y18_0 + 1; let v4 : Int := IntKind.wrap IntKind.i64 v3; bif v2 != v4 then (some (.inr (.inr (false, ())))) else (let v5 : Int := Int.tmod y16_8 8; bif v5 == 0 then ((c10 ((y16_1, y16_2), ())).bind fun ⟨y21, ()⟩ => ((c10 ((y18_1, y18_2), ())).bind fun ⟨y22, ()⟩ => ((c20 (y21, (y22, ()))).bind fun ⟨y23, ()⟩ => (bif !y23 then (some (.inr (.inr (false, ())))) else (let v6 : Int := y16_8 + 1; let v7 : Int := IntKind.wrap IntKind.i64 v6; some (.inl (y16_0, ((y16_1, (y16_2, ())), ((y18_1, (y18_2, ())), ((y16_5, (y16_6, ())), (y16_7, (v7, ())))))))))))) else (let v6 : Int := y16_8 + 1; let v7 : Int := IntKind.wrap IntKind.i64 v6; some (.inl (y16_0, ((y16_1, (y16_2, ())), ((y18_1, (y18_2, ())), ((y16_5, (y16_6, ())), (y16_7, (v7, ()))))))))))))))))))))))))))) else (some (.inr (.inl ((a'_0, (a'_1, ())), ((b'_0, (b'_1, ())), ((c'_0, (c'_1, ())), ()))))))) else (some (.inr (.inl ((a'_0, (a'_1, ())), ((b'_0, (b'_1, ())), ((c'_0, (c'_1, ())), ())))))))
def R6_0 : LA6_0 → Option (LA6_0 ⊕ LB6_0) := Q6_0 N7 N8 N9 N16 N10 N11 N20 (itrs R6_2)
def L6_0 : Lc τ := ⟨li6_0, itrs R6_0, lo6_0⟩
def M6 (c7 : A7 → Option B7) (c8 : A8 → Option B8) (c9 : A9 → Option B9) (c16 : A16 → Option B16) (c10 : A10 → Option B10) (c11 : A11 → Option B11) (c20 : A20 → Option B20) (l6_0 : LA6_0 → Option LB6_0) : A6 → Option B6 := fun ⟨list', ()⟩ => ((c7 ()).bind fun ⟨y0, ()⟩ => (bif !y0 then (some (false, ())) else ((c8 ()).bind fun ⟨⟨y2_0, ⟨y2_1, ()⟩⟩, ()⟩ => ((c8 ()).bind fun ⟨⟨y3_0, ⟨y3_1, ()⟩⟩, ()⟩ => ((c8 ()).bind fun ⟨⟨y4_0, ⟨y4_1, ()⟩⟩, ()⟩ => ((l6_0 (list', ((y2_0, (y2_1, ())), ((y3_0, (y3_1, ())), ((y4_0, (y4_1, ())), (0, (0, ()))))))).bind fun y5 => (match y5 with | .inl ⟨⟨y6_0, ⟨y6_1, ()⟩⟩, ⟨⟨y6_2, ⟨y6_3, ()⟩⟩, ⟨⟨y6_4, ⟨y6_5, ()⟩⟩, ()⟩⟩⟩ => ((c10 ((y6_0, y6_1), ())).bind fun ⟨y7, ()⟩ => ((c10 ((y6_2, y6_3), ())).bind fun ⟨y8, ()⟩ => ((c20 (y7, (y8, ()))).bind fun ⟨y9, ()⟩ => (bif y9 then ((c11 ((y6_4, (y6_5, ())), ())).bind fun ⟨y11_0, ⟨⟨y11_1, ⟨y11_2, ()⟩⟩, ()⟩⟩ => (some (y11_0 == 0, ()))) else (some (false, ())))))) | .inr ⟨y6, ()⟩ => (some (y6, ())))))))))
def N6 : A6 → Option B6 := M6 N7 N8 N9 N16 N10 N11 N20 (itrs R6_0)
def C6 : Ctr τ := ⟨i6, o6, N6, 0⟩
theorem g6 : GOK κ Try.prog (G6 N7 N8 N9 N16 N10 N11 N20) := (gok_cons s7 (keeps0 rfl) (gok_cons s8 (keeps0 rfl) (gok_cons s9 (keeps0 rfl) (gok_cons s16 (keeps0 rfl) (gok_cons s10 (keeps0 rfl) (gok_cons s11 (keeps0 rfl) (gok_cons s20 (keeps0 rfl) gok_nil)))))))
theorem le6_2 : ∀ (c7 : A7 → Option B7) (c8 : A8 → Option B8) (c9 : A9 → Option B9) (c16 : A16 → Option B16) (c10 : A10 → Option B10) (c11 : A11 → Option B11) (c20 : A20 → Option B20) x, Q6_2 c7 c8 c9 c16 c10 c11 c20 x = run Try.prog κ (G6 c7 c8 c9 c16 c10 c11 c20) (tabL []) 2 (loopAt Try.f6 1) (li6_2.build x) (rnd li6_2 lo6_2) := fun c7 c8 c9 c16 c10 c11 c20 x => by kernel_rfl
theorem le6_0 : ∀ (c7 : A7 → Option B7) (c8 : A8 → Option B8) (c9 : A9 → Option B9) (c16 : A16 → Option B16) (c10 : A10 → Option B10) (c11 : A11 → Option B11) (c20 : A20 → Option B20) (l6_2 : LA6_2 → Option LB6_2) x, Q6_0 c7 c8 c9 c16 c10 c11 c20 l6_2 x = run Try.prog κ (G6 c7 c8 c9 c16 c10 c11 c20) (tabL [(2, (⟨li6_2, l6_2, lo6_2⟩ : Lc τ))]) 0 (loopAt Try.f6 0) (li6_0.build x) (rnd li6_0 lo6_0) := fun c7 c8 c9 c16 c10 c11 c20 l6_2 x => by kernel_rfl
theorem linner6_2 : ∀ Z : Zn, Z.rl = [] → 151 ≤ Z.nt → ∀ p ∈ loops 2 (loopAt Try.f6 1), ∀ C, (tabL []) p.1 = some C → LoopOK κ Try.prog Z p.2 C := fun Z h n => fun p hp => (by cases (show p ∈ ([] : List (Nat × Code)) from hp))
theorem lk6_2 : ∀ Z : Zn, Z.rl = [] → 151 ≤ Z.nt → LoopOK κ Try.prog Z (loopAt Try.f6 1) L6_2 := fun Z h n => loop_ok (S := (tabL [])) R6_2 (by kernel_rfl) g6 (by rw [h]; exact dsts_mono n _ (by kernel_rfl)) (linner6_2 Z h n) (by kernel_rfl) (by kernel_rfl) (le6_2 N7 N8 N9 N16 N10 N11 N20) itrs_rounds
theorem linner6_0 : ∀ Z : Zn, Z.rl = [] → 151 ≤ Z.nt → ∀ p ∈ loops 0 (loopAt Try.f6 0), ∀ C, (tabL [(2, L6_2)]) p.1 = some C → LoopOK κ Try.prog Z p.2 C := fun Z h n => all_loops [(2, loopAt Try.f6 1)] (by kernel_rfl) (all_cons (fun C hC => (Option.some.inj hC : L6_2 = C) ▸ lk6_2 Z h n) (fun _ h => by cases h))
theorem lk6_0 : ∀ Z : Zn, Z.rl = [] → 151 ≤ Z.nt → LoopOK κ Try.prog Z (loopAt Try.f6 0) L6_0 := fun Z h n => loop_ok (S := (tabL [(2, L6_2)])) R6_0 (by kernel_rfl) g6 (by rw [h]; exact dsts_mono n _ (by kernel_rfl)) (linner6_0 Z h n) (by kernel_rfl) (by kernel_rfl) (le6_0 N7 N8 N9 N16 N10 N11 N20 (itrs R6_2)) itrs_rounds
theorem lall6 : ∀ Z : Zn, Z.rl = C6.o.keeps → Try.f6.ntmps ≤ Z.nt → ∀ p ∈ loops 0 (bodyOf Try.f6), ∀ C, (tabL [(0, L6_0)]) p.1 = some C → LoopOK κ Try.prog Z p.2 C := fun Z h n => all_loops [(0, loopAt Try.f6 0), (2, loopAt Try.f6 1)] (by kernel_rfl) (all_cons (fun C hC => (Option.some.inj hC : L6_0 = C) ▸ lk6_0 Z h n) (all_cons (fun C hC => by cases hC) (fun _ h => by cases h)))
theorem e6 : ∀ (c7 : A7 → Option B7) (c8 : A8 → Option B8) (c9 : A9 → Option B9) (c16 : A16 → Option B16) (c10 : A10 → Option B10) (c11 : A11 → Option B11) (c20 : A20 → Option B20) (l6_0 : LA6_0 → Option LB6_0) x, M6 c7 c8 c9 c16 c10 c11 c20 l6_0 x = fnE Try.prog κ (G6 c7 c8 c9 c16 c10 c11 c20) (tabL [(0, (⟨li6_0, l6_0, lo6_0⟩ : Lc τ))]) Try.f6 i6 o6 x := fun c7 c8 c9 c16 c10 c11 c20 l6_0 x => by kernel_rfl
theorem s6 : Sound κ Try.prog C6 6 := fn_sound (S := (tabL [(0, L6_0)])) (F := Try.f6) (code := bodyOf Try.f6) (by kernel_rfl) g6 Try.func6 (by kernel_rfl) (by kernel_rfl) (by kernel_rfl) lall6 (by kernel_rfl) (by kernel_rfl) fun x y h => (e6 N7 N8 N9 N16 N10 N11 N20 (itrs R6_0) x).symm.trans h
end Go.Proofs.Ytdcfpgkgaaobhaa.E
namespace Go.Proofs.Ytdcfpgkgaaobhaa.E
open Go
set_option linter.unusedVariables false
set_option maxRecDepth 100000
abbrev A12 : Type := ((Int × (Int × (ByteArray × Int))) × (Int × (Int × (ByteArray × Int))) × Unit)
abbrev B12 : Type := (Bool × Unit)
def i12 : Fr τ A12 := (.val 0 (.pair (.int .i64) (.pair (.int .i64) (.pair .str (.int .i64)))) (.val 1 (.pair (.int .i64) (.pair (.int .i64) (.pair .str (.int .i64)))) .nil))
def o12 : Fr τ B12 := (.val 1000 .bool .nil)
def G12 : Nat → Option (Ctr τ) := tabG []
def M12 : A12 → Option B12 := fun ⟨⟨a'_0, ⟨a'_1, ⟨a'_2, a'_3⟩⟩⟩, ⟨⟨b'_0, ⟨b'_1, ⟨b'_2, b'_3⟩⟩⟩, ()⟩⟩ => (bif a'_0 != b'_0 then (some (decide (a'_0 < b'_0), ())) else (bif a'_1 != b'_1 then (some (decide (a'_1 < b'_1), ())) else (bif !ByteArray.toList a'_2 == ByteArray.toList b'_2 then (some (Op.bytesLess (ByteArray.toList a'_2) (ByteArray.toList b'_2), ())) else (some (decide (a'_3 < b'_3), ())))))
def N12 : A12 → Option B12 := M12
def C12 : Ctr τ := ⟨i12, o12, N12, 0⟩
theorem g12 : GOK κ Try.prog (G12) := gok_nil
theorem lall12 : ∀ Z : Zn, Z.rl = C12.o.keeps → Try.f12.ntmps ≤ Z.nt → ∀ p ∈ loops 0 (bodyOf Try.f12), ∀ C, (tabL []) p.1 = some C → LoopOK κ Try.prog Z p.2 C := fun Z h n => fun p hp => (by cases (show p ∈ ([] : List (Nat × Code)) from hp))
theorem e12 : ∀ x, M12 x = fnE Try.prog κ (G12) (tabL []) Try.f12 i12 o12 x := fun x => by kernel_rfl
theorem s12 : Sound κ Try.prog C12 12 := fn_sound (S := (tabL [])) (F := Try.f12) (code := bodyOf Try.f12) (by kernel_rfl) g12 Try.func12 (by kernel_rfl) (by kernel_rfl) (by kernel_rfl) lall12 (by kernel_rfl) (by kernel_rfl) fun x y h => (e12 x).symm.trans h
end Go.Proofs.Ytdcfpgkgaaobhaa.E
namespace Go.Proofs.Ytdcfpgkgaaobhaa.E
open Go
set_option linter.unusedVariables false
set_option maxRecDepth 100000
abbrev A3 : Type := ((List T30) × Unit)
abbrev B3 : Type := (Bool × Unit)
def i3 : Fr τ A3 := (.val 0 (.sl 30) .nil)
def o3 : Fr τ B3 := (.val 1000 .bool .nil)
def G3 (c7 : A7 → Option B7) (c8 : A8 → Option B8) (c9 : A9 → Option B9) (c10 : A10 → Option B10) (c11 : A11 → Option B11) (c12 : A12 → Option B12) (c13 : A13 → Option B13) : Nat → Option (Ctr τ) := tabG [(7, (⟨i7, o7, c7, 0⟩ : Ctr τ)), (8, (⟨i8, o8, c8, 0⟩ : Ctr τ)), (9, (⟨i9, o9, c9, 0⟩ : Ctr τ)), (10, (⟨i10, o10, c10, 0⟩ : Ctr τ)), (11, (⟨i11, o11, c11, 0⟩ : Ctr τ)), (12, (⟨i12, o12, c12, 0⟩ : Ctr τ)), (13, (⟨i13, o13, c13, 0⟩ : Ctr τ))]
abbrev LA3_2 : Type := ((List T30 × (Int × Unit)) × Int × (List T30) × Int × Unit)
abbrev LB3_2 : Type := ((List T30 × (Int × Unit)) × Unit) ⊕ (Bool × Unit)
def li3_2 : Fr τ LA3_2 := (.ptr 3 none 50 (.own 30 (.val (.int .i64) .nil)) (.val 4 (.int .i64) (.own 8 30 (.val 9 (.int .i64) .nil))))
def lo3_2 : Ot τ LB3_2 := .alt (.exit 2) (.ptr 3 none 50 (.own 30 (.val (.int .i64) .nil)) .nil) (.one .ret (.val 2 .bool .nil))
def Q3_2 (c7 : A7 → Option B7) (c8 : A8 → Option B8) (c9 : A9 → Option B9) (c10 : A10 → Option B10) (c11 : A11 → Option B11) (c12 : A12 → Option B12) (c13 : A13 → Option B13) : LA3_2 → Option (LA3_2 ⊕ LB3_2) := fun ⟨⟨a'_0, ⟨a'_1, ()⟩⟩, ⟨taken', ⟨all', ⟨i', ()⟩⟩⟩⟩ => (bif decide (i' < taken') then (bif decide (i' > 0) then (let v0 : Int := i' - 1; let v1 : Int := IntKind.wrap IntKind.i64 v0; let v2 : Int := ↑(List.length all'); (bif decide (0 ≤ v1) && decide (v1 < v2) then some () else none).bind fun () => ((all'[Int.toNat v1]?).bind fun ⟨y3_0, ⟨y3_1, ⟨y3_2, y3_3⟩⟩⟩ => ((bif decide (0 ≤ i') && decide (i' < v2) then some () else none).bind fun () => ((all'[Int.toNat i']?).bind fun ⟨y5_0, ⟨y5_1, ⟨y5_2, y5_3⟩⟩⟩ => ((c12 ((y3_0, (y3_1, (y3_2, y3_3))), ((y5_0, (y5_1, (y5_2, y5_3))), ()))).bind fun ⟨y6, ()⟩ => (bif !y6 then (some (.inr (.inr (false, ())))) else ((bif decide (0 ≤ i') && decide (i' < v2) then some () else none).bind fun () => ((all'[Int.toNat i']?).bind fun ⟨y9_0, ⟨y9_1, ⟨y9_2, y9_3⟩⟩⟩ => (let v3 : Int := y9_0 - 1; let v4 : Int := IntKind.wrap IntKind.i64 v3; (c13 ((a'_0, (a'_1, ())), (v4, ()))).bind fun ⟨⟨y10_0, ⟨y10_1, ⟨y10_2, y10_3⟩⟩⟩, ⟨y10_4, ⟨⟨y10_5, ⟨y10_6, ()⟩⟩, ()⟩⟩⟩ => ((bif decide (0 ≤ i') && decide (i' < v2) then some () else none).bind fun () => ((all'[Int.toNat i']?).bind fun ⟨y12_0, ⟨y12_1, ⟨y12_2, y12_3⟩⟩⟩ => ((c13 ((y10_5, (y10_6, ())), (y12_0, ()))).bind fun ⟨⟨y13_0, ⟨y13_1, ⟨y13_2, y13_3⟩⟩⟩, ⟨y13_4, ⟨⟨y13_5, ⟨y13_6, ()⟩⟩, ()⟩⟩⟩ => (bif y10_4 then (some (.inr (.inr (false, ())))) else (bif !y13_4 then (some (.inr (.inr (false, ())))) else ((bif decide (0 ≤ i') && decide (i' < v2) then some () else none).bind fun () => ((all'[Int.toNat i']?).bind fun ⟨y17_0, ⟨y17_1, ⟨y17_2, y17_3⟩⟩⟩ => (bif !(y13_0 == y17_0 && (y13_1 == y17_1 && (ByteArray.toList y13_2 == ByteArray.toList y17_2 && y13_3 == y17_3))) then (some (.inr (.inr (false, ())))) else (let v5 : Int := i' + 1; let v6 : Int := IntKind.wrap IntKind.i64 v5; some (.inl ((y13_5, (y13_6, ())), (taken', (all', (v6, ()))))))))))))))))))))))) else (let v0 : Int := ↑(List.length all'); (bif decide (0 ≤ i') && decide (i' < v0) then some () else none).bind fun () => ((all'[Int.toNat i']?).bind fun ⟨y3_0, ⟨y3_1, ⟨y3_2, y3_3⟩⟩⟩ => (let v1 : Int := y3_0 - 1; let v2 : Int := IntKind.wrap IntKind.i64 v1; (c13 ((a'_0, (a'_1, ())), (v2, ()))).bind fun ⟨⟨y4_0, ⟨y4_1, ⟨y4_2, y4_3⟩⟩⟩, ⟨y4_4, ⟨⟨y4_5, ⟨y4_6, ()⟩⟩, ()⟩⟩⟩ => ((bif decide (0 ≤ i') && decide (i' < v0) then some () else none).bind fun () => ((all'[Int.toNat i']?).bind fun ⟨y6_0, ⟨y6_1, ⟨y6_2, y6_3⟩⟩⟩ => ((c13 ((y4_5, (y4_6, ())), (y6_0, ()))).bind fun ⟨⟨y7_0, ⟨y7_1, ⟨y7_2, y7_3⟩⟩⟩, ⟨y7_4, ⟨⟨y7_5, ⟨y7_6, ()⟩⟩, ()⟩⟩⟩ => (bif y4_4 then (some (.inr (.inr (false, ())))) else (bif !y7_4 then (some (.inr (.inr (false, ())))) else ((bif decide (0 ≤ i') && decide (i' < v0) then some () else none).bind fun () => ((all'[Int.toNat i']?).bind fun ⟨y11_0, ⟨y11_1, ⟨y11_2, y11_3⟩⟩⟩ => (bif !(y7_0 == y11_0 && (y7_1 == y11_1 && (ByteArray.toList y7_2 == ByteArray.toList y11_2 && y7_3 == y11_3))) then (some (.inr (.inr (false, ())))) else (let v3 : Int := i' + 1; let v4 : Int := IntKind.wrap IntKind.i64 v3; some (.inl ((y7_5, (y7_6, ())), (taken', (all', (v4, ())))))))))))))))))) else (some (.inr (.inl ((a'_0, (a'_1, ())), ())))))
def R3_2 : LA3_2 → Option (LA3_2 ⊕ LB3_2) := Q3_2 N7 N8 N9 N10 N11 N12 N13
def L3_2 : Lc τ := ⟨li3_2, itrs R3_2, lo3_2⟩
abbrev LA3_0 : Type := ((List T30) × (List T30 × (Int × Unit)) × Int × Int × Unit)
abbrev LB3_0 : Type := ((List T30 × (Int × Unit)) × Int × Unit) ⊕ (Bool × Unit)
def li3_0 : Fr τ LA3_0 := (.val 0 (.sl 30) (.ptr 3 none 50 (.own 30 (.val (.int .i64) .nil)) (.val 4 (.int .i64) (.val 5 (.int .i64) .nil))))
def lo3_0 : Ot τ LB3_0 := .alt (.exit 0) (.ptr 3 none 50 (.own 30 (.val (.int .i64) .nil)) (.val 4 (.int .i64) .nil)) (.one .ret (.val 2 .bool .nil))
def Q3_0 (c7 : A7 → Option B7) (c8 : A8 → Option B8) (c9 : A9 → Option B9) (c10 : A10 → Option B10) (c11 : A11 → Option B11) (c12 : A12 → Option B12) (c13 : A13 → Option B13) : LA3_0 → Option (LA3_0 ⊕ LB3_0) := fun ⟨list', ⟨⟨a'_0, ⟨a'_1, ()⟩⟩, ⟨taken', ⟨i', ()⟩⟩⟩⟩ => (let v0 : Int := ↑(List.length list'); bif decide (i' < v0) then (bif decide (i' < 600) then ((bif decide (0 ≤ i') then list'[Int.toNat i']? else none).bind fun ⟨y2_0, ⟨y2_1, ⟨y2_2, y2_3⟩⟩⟩ => ((bif decide (0 ≤ i') then list'[Int.toNat i']? else none).bind fun ⟨y3_0, ⟨y3_1, ⟨y3_2, y3_3⟩⟩⟩ => ((bif decide (0 ≤ i') then list'[Int.toNat i']? else none).bind fun ⟨y4_0, ⟨y4_1, ⟨y4_2, y4_3⟩⟩⟩ => ((c9 ((a'_0, (a'_1, ())), (y2_0, (y3_1, (y4_2, ()))))).bind fun ⟨y5_0, ⟨y5_1, ⟨⟨y5_2, ⟨y5_3, ()⟩⟩, ()⟩⟩⟩ => (bif y5_1 == 0 then (let v1 : Int := taken' + 1; let v2 : Int := IntKind.wrap IntKind.i64 v1; bif y5_0 != v2 then (some (.inr (.inr (false, ())))) else (let v3 : Int := i' + 1; let v4 : Int := IntKind.wrap IntKind.i64 v3; some (.inl (list', ((y5_2, (y5_3, ())), (v2, (v4, ()))))))) else (bif y5_0 != 0 then (some (.inr (.inr (false, ())))) else (let v1 : Int := i' + 1; let v2 : Int := IntKind.wrap IntKind.i64 v1; some (.inl (list', ((y5_2, (y5_3, ())), (taken', (v2, ())))))))))))) else (some (.inr (.inl ((a'_0, (a'_1, ())), (taken', ())))))) else (some (.inr (.inl ((a'_0, (a'_1, ())), (taken', ()))))))
def R3_0 : LA3_0 → Option (LA3_0 ⊕ LB3_0) := Q3_0 N7 N8 N9 N10 N11 N12 N13
def L3_0 : Lc τ := ⟨li3_0, itrs R3_0, lo3_0⟩
def M3 (c7 : A7 → Option B7) (c8 : A8 → Option B8) (c9 : A9 → Option B9) (c10 : A10 → Option B10) (c11 : A11 → Option B11) (c12 : A12 → Option B12) (c13 : A13 → Option B13) (l3_0 : LA3_0 → Option LB3_0) (l3_2 : LA3_2 → Option LB3_2) : A3 → Option B3 := fun ⟨list', ()⟩ => ((c7 ()).bind fun ⟨y0, ()⟩ => (bif !y0 then (some (false, ())) else ((c8 ()).bind fun ⟨⟨y2_0, ⟨y2_1, ()⟩⟩, ()⟩ => ((l3_0 (list', ((y2_0, (y2_1, ())), (0, (0, ()))))).bind fun y3 => (match y3 with | .inl ⟨⟨y4_0, ⟨y4_1, ()⟩⟩, ⟨y4_2, ()⟩⟩ => ((c10 ((y4_0, y4_1), ())).bind fun ⟨y5, ()⟩ => (let v0 : Int := ↑(List.length y5); bif v0 != y4_2 then (some (false, ())) else ((c11 ((y4_0, (y4_1, ())), ())).bind fun ⟨y7_0, ⟨⟨y7_1, ⟨y7_2, ()⟩⟩, ()⟩⟩ => (bif y7_0 != y4_2 then (some (false, ())) else ((l3_2 ((y7_1, (y7_2, ())), (y4_2, (y5, (0, ()))))).bind fun y9 => (match y9 with | .inl ⟨⟨y10_0, ⟨y10_1, ()⟩⟩, ()⟩ => ((c13 ((y10_0, (y10_1, ())), (1000000, ()))).bind fun ⟨⟨y11_0, ⟨y11_1, ⟨y11_2, y11_3⟩⟩⟩, ⟨y11_4, ⟨⟨y11_5, ⟨y11_6, ()⟩⟩, ()⟩⟩⟩ => (bif !y11_4 then ((c11 ((y11_5, (y11_6, ())), ())).bind fun ⟨y13_0, ⟨⟨y13_1, ⟨y13_2, ()⟩⟩, ()⟩⟩ => (bif y13_0 == 0 then ((c10 ((y13_1, y13_2), ())).bind fun ⟨y15, ()⟩ => (let v1 : Int := ↑(List.length y15); some (v1 == 0, ()))) else (some (false, ())))) else (some (false, ())))) | .inr ⟨y10, ()⟩ => (some (y10, ())))))))) | .inr ⟨y4, ()⟩ => (some (y4, ())))))))
def N3 : A3 → Option B3 := M3 N7 N8 N9 N10 N11 N12 N13 (itrs R3_0) (itrs R3_2)
def C3 : Ctr τ := ⟨i3, o3, N3, 0⟩
theorem g3 : GOK κ Try.prog (G3 N7 N8 N9 N10 N11 N12 N13) := (gok_cons s7 (keeps0 rfl) (gok_cons s8 (keeps0 rfl) (gok_cons s9 (keeps0 rfl) (gok_cons s10 (keeps0 rfl) (gok_cons s11 (keeps0 rfl) (gok_cons s12 (keeps0 rfl) (gok_cons s13 (keeps0 rfl) gok_nil)))))))
theorem le3_2 : ∀ (c7 : A7 → Option B7) (c8 : A8 → Option B8) (c9 : A9 → Option B9) (c10 : A10 → Option B10) (c11 : A11 → Option B11) (c12 : A12 → Option B12) (c13 : A13 → Option B13) x, Q3_2 c7 c8 c9 c10 c11 c12 c13 x = run Try.prog κ (G3 c7 c8 c9 c10 c11 c12 c13) (tabL []) 2 (loopAt Try.f3 1) (li3_2.build x) (rnd li3_2 lo3_2) := fun c7 c8 c9 c10 c11 c12 c13 x => by kernel_rfl
theorem le3_0 : ∀ (c7 : A7 → Option B7) (c8 : A8 → Option B8) (c9 : A9 → Option B9) (c10 : A10 → Option B10) (c11 : A11 → Option B11) (c12 : A12 → Option B12) (c13 : A13 → Option B13) x, Q3_0 c7 c8 c9 c10 c11 c12 c13 x = run Try.prog κ (G3 c7 c8 c9 c10 c11 c12 c13) (tabL []) 0 (loopAt Try.f3 0) (li3_0.build x) (rnd li3_0 lo3_0) := fun c7 c8 c9 c10 c11 c12 c13 x => by kernel_rfl
theorem linner3_2 : ∀ Z : Zn, Z.rl = [] → 142 ≤ Z.nt → ∀ p ∈ loops 2 (loopAt Try.f3 1), ∀ C, (tabL []) p.1 = some C → LoopOK κ Try.prog Z p.2 C := fun Z h n => fun p hp => (by cases (show p ∈ ([] : List (Nat × Code)) from hp))
theorem lk3_2 : ∀ Z : Zn, Z.rl = [] → 142 ≤ Z.nt → LoopOK κ Try.prog Z (loopAt Try.f3 1) L3_2 := fun Z h n => loop_ok (S := (tabL [])) R3_2 (by kernel_rfl) g3 (by rw [h]; exact dsts_mono n _ (by kernel_rfl)) (linner3_2 Z h n) (by kernel_rfl) (by kernel_rfl) (le3_2 N7 N8 N9 N10 N11 N12 N13) itrs_rounds
theorem linner3_0 : ∀ Z : Zn, Z.rl = [] → 142 ≤ Z.nt → ∀ p ∈ loops 0 (loopAt Try.f3 0), ∀ C, (tabL []) p.1 = some C → LoopOK κ Try.prog Z p.2 C := fun Z h n => fun p hp => (by cases (show p ∈ ([] : List (Nat × Code)) from hp))
theorem lk3_0 : ∀ Z : Zn, Z.rl = [] → 142 ≤ Z.nt → LoopOK κ Try.prog Z (loopAt Try.f3 0) L3_0 := fun Z h n => loop_ok (S := (tabL [])) R3_0 (by kernel_rfl) g3 (by rw [h]; exact dsts_mono n _ (by kernel_rfl)) (linner3_0 Z h n) (by kernel_rfl) (by kernel_rfl) (le3_0 N7 N8 N9 N10 N11 N12 N13) itrs_rounds
theorem lall3 : ∀ Z : Zn, Z.rl = C3.o.keeps → Try.f3.ntmps ≤ Z.nt → ∀ p ∈ loops 0 (bodyOf Try.f3), ∀ C, (tabL [(0, L3_0), (2, L3_2)]) p.1 = some C → LoopOK κ Try.prog Z p.2 C := fun Z h n => all_loops [(0, loopAt Try.f3 0), (2, loopAt Try.f3 1)] (by kernel_rfl) (all_cons (fun C hC => (Option.some.inj hC : L3_0 = C) ▸ lk3_0 Z h n) (all_cons (fun C hC => (Option.some.inj hC : L3_2 = C) ▸ lk3_2 Z h n) (fun _ h => by cases h)))
theorem e3 : ∀ (c7 : A7 → Option B7) (c8 : A8 → Option B8) (c9 : A9 → Option B9) (c10 : A10 → Option B10) (c11 : A11 → Option B11) (c12 : A12 → Option B12) (c13 : A13 → Option B13) (l3_0 : LA3_0 → Option LB3_0) (l3_2 : LA3_2 → Option LB3_2) x, M3 c7 c8 c9 c10 c11 c12 c13 l3_0 l3_2 x = fnE Try.prog κ (G3 c7 c8 c9 c10 c11 c12 c13) (tabL [(0, (⟨li3_0, l3_0, lo3_0⟩ : Lc τ)), (2, (⟨li3_2, l3_2, lo3_2⟩ : Lc τ))]) Try.f3 i3 o3 x := fun c7 c8 c9 c10 c11 c12 c13 l3_0 l3_2 x => by kernel_rfl
theorem s3 : Sound κ Try.prog C3 3 := fn_sound (S := (tabL [(0, L3_0), (2, L3_2)])) (F := Try.f3) (code := bodyOf Try.f3) (by kernel_rfl) g3 Try.func3 (by kernel_rfl) (by kernel_rfl) (by kernel_rfl) lall3 (by kernel_rfl) (by kernel_rfl) fun x y h => (e3 N7 N8 N9 N10 N11 N12 N13 (itrs R3_0) (itrs R3_2) x).symm.trans h
end Go.Proofs.Ytdcfpgkgaaobhaa.E
namespace Go.Proofs.Ytdcfpgkgaaobhaa.E
open Go
set_option linter.unusedVariables false
set_option maxRecDepth 100000
abbrev A5 : Type := ((List T30) × Int × Unit)
abbrev B5 : Type := (Bool × Unit)
def i5 : Fr τ A5 := (.val 0 (.sl 30) (.val 1 (.int .i64) .nil))
def o5 : Fr τ B5 := (.val 1000 .bool .nil)
def G5 (c7 : A7 → Option B7) (c8 : A8 → Option B8) (c9 : A9 → Option B9) (c10 : A10 → Option B10) (c16 : A16 → Option B16) (c13 : A13 → Option B13) (c11 : A11 → Option B11) : Nat → Option (Ctr τ) := tabG [(7, (⟨i7, o7, c7, 0⟩ : Ctr τ)), (8, (⟨i8, o8, c8, 0⟩ : Ctr τ)), (9, (⟨i9, o9, c9, 0⟩ : Ctr τ)), (10, (⟨i10, o10, c10, 0⟩ : Ctr τ)), (16, (⟨i16, o16, c16, 0⟩ : Ctr τ)), (13, (⟨i13, o13, c13, 0⟩ : Ctr τ)), (11, (⟨i11, o11, c11, 0⟩ : Ctr τ))]
abbrev LA5_6 : Type := (Int × (List T30 × (Int × Unit)) × (List T30) × Int × Int × Unit)
abbrev LB5_6 : Type := ((List T30 × (Int × Unit)) × (List T30) × Int × Unit) ⊕ (Bool × Unit)
def li5_6 : Fr τ LA5_6 := (.val 1 (.int .i64) (.ptr 5 none 50 (.own 30 (.val (.int .i64) .nil)) (.own 8 30 (.val 13 (.int .i64) (.val 14 (.int .i64) .nil)))))
def lo5_6 : Ot τ LB5_6 := .alt (.exit 6) (.ptr 5 none 50 (.own 30 (.val (.int .i64) .nil)) (.own 8 30 (.val 13 (.int .i64) .nil))) (.one .ret (.val 4 .bool .nil))
def Q5_6 (c7 : A7 → Option B7) (c8 : A8 → Option B8) (c9 : A9 → Option B9) (c10 : A10 → Option B10) (c16 : A16 → Option B16) (c13 : A13 → Option B13) (c11 : A11 → Option B11) : LA5_6 → Option (LA5_6 ⊕ LB5_6) := fun ⟨drop', ⟨⟨a'_0, ⟨a'_1, ()⟩⟩, ⟨x', ⟨at', ⟨i', ()⟩⟩⟩⟩⟩ => (let v0 : Int := ↑(List.length x'); bif decide (i' < v0) then ((bif decide (0 ≤ i') && decide (i' < v0) then some () else none).bind fun () => ((x'[Int.toNat i']?).bind fun ⟨y2_0, ⟨y2_1, ⟨y2_2, y2_3⟩⟩⟩ => (bif y2_3 == drop' then (let v1 : Int := i' + 1; let v2 : Int := IntKind.wrap IntKind.i64 v1; some (.inl (drop', ((a'_0, (a'_1, ())), (x', (at', (v2, ()))))))) else ((c13 ((a'_0, (a'_1, ())), (1000000, ()))).bind fun ⟨⟨y4_0, ⟨y4_1, ⟨y4_2, y4_3⟩⟩⟩, ⟨y4_4, ⟨⟨y4_5, ⟨y4_6, ()⟩⟩, ()⟩⟩⟩ => (bif !y4_4 then (some (.inr (.inr (false, ())))) else ((bif decide (0 ≤ i') && decide (i' < v0) then some () else none).bind fun () => ((x'[Int.toNat i']?).bind fun ⟨y7_0, ⟨y7_1, ⟨y7_2, y7_3⟩⟩⟩ => (bif !(y4_0 == y7_0 && (y4_1 == y7_1 && (ByteArray.toList y4_2 == ByteArray.toList y7_2 && y4_3 == y7_3))) then (some (.inr (.inr (false, ())))) else (let v1 : Int := at' + 1; let v2 : Int := IntKind.wrap IntKind.i64 v1; let v3 : Int := i' + 1; let v4 : Int := IntKind.wrap IntKind.i64 v3; some (.inl (drop', ((y4_5, (y4_6, ())), (x', (v2, (v4, ()))))))))))))))) else (some (.inr (.inl ((a'_0, (a'_1, ())), (x', (at', ())))))))
def R5_6 : LA5_6 → Option (LA5_6 ⊕ LB5_6) := Q5_6 N7 N8 N9 N10 N16 N13 N11
def L5_6 : Lc τ := ⟨li5_6, itrs R5_6, lo5_6⟩
abbrev LA5_4 : Type := (Int × (List T30 × (Int × Unit)) × (List T30) × Bool × Int × Unit)
abbrev LB5_4 : Type := (Int × (List T30 × (Int × Unit)) × (List T30) × Bool × Unit)
def li5_4 : Fr τ LA5_4 := (.val 1 (.int .i64) (.ptr 5 none 50 (.own 30 (.val (.int .i64) .nil)) (.own 8 30 (.val 11 .bool (.val 12 (.int .i64) .nil)))))
def lo5_4 : Ot τ LB5_4 := .one (.exit 4) (.val 1 (.int .i64) (.ptr 5 none 50 (.own 30 (.val (.int .i64) .nil)) (.own 8 30 (.val 11 .bool .nil))))
def Q5_4 (c7 : A7 → Option B7) (c8 : A8 → Option B8) (c9 : A9 → Option B9) (c10 : A10 → Option B10) (c16 : A16 → Option B16) (c13 : A13 → Option B13) (c11 : A11 → Option B11) : LA5_4 → Option (LA5_4 ⊕ LB5_4) := fun ⟨drop', ⟨⟨a'_0, ⟨a'_1, ()⟩⟩, ⟨x', ⟨there', ⟨i', ()⟩⟩⟩⟩⟩ => (let v0 : Int := ↑(List.length x'); bif decide (i' < v0) then (bif there' then (let v1 : Int := i' + 1; let v2 : Int := IntKind.wrap IntKind.i64 v1; some (.inl (drop', ((a'_0, (a'_1, ())), (x', (true, (v2, ()))))))) else ((bif decide (0 ≤ i') && decide (i' < v0) then some () else none).bind fun () => ((x'[Int.toNat i']?).bind fun ⟨y3_0, ⟨y3_1, ⟨y3_2, y3_3⟩⟩⟩ => (let v1 : Int := i' + 1; let v2 : Int := IntKind.wrap IntKind.i64 v1; some (.inl (drop', ((a'_0, (a'_1, ())), (x', (y3_3 == drop', (v2, ())))))))))) else (some (.inr (drop', ((a'_0, (a'_1, ())), (x', (there', ())))))))
def R5_4 : LA5_4 → Option (LA5_4 ⊕ LB5_4) := Q5_4 N7 N8 N9 N10 N16 N13 N11
def L5_4 : Lc τ := ⟨li5_4, itrs R5_4, lo5_4⟩
abbrev LA5_2 : Type := (Int × (List T30 × (Int × Unit)) × (List T30) × (List T30) × Int × Unit)
abbrev LB5_2 : Type := (Int × (List T30 × (Int × Unit)) × (List T30) × Unit) ⊕ (Bool × Unit)
def li5_2 : Fr τ LA5_2 := (.val 1 (.int .i64) (.ptr 5 none 50 (.own 30 (.val (.int .i64) .nil)) (.own 8 30 (.own 9 30 (.val 10 (.int .i64) .nil)))))
def lo5_2 : Ot τ LB5_2 := .alt (.exit 2) (.val 1 (.int .i64) (.ptr 5 none 50 (.own 30 (.val (.int .i64) .nil)) (.own 8 30 .nil))) (.one .ret (.val 4 .bool .nil))
def Q5_2 (c7 : A7 → Option B7) (c8 : A8 → Option B8) (c9 : A9 → Option B9) (c10 : A10 → Option B10) (c16 : A16 → Option B16) (c13 : A13 → Option B13) (c11 : A11 → Option B11) : LA5_2 → Option (LA5_2 ⊕ LB5_2) := fun ⟨drop', ⟨⟨a'_0, ⟨a'_1, ()⟩⟩, ⟨x', ⟨y', ⟨i', ()⟩⟩⟩⟩⟩ => (let v0 : Int := ↑(List.length x'); bif decide (i' < v0) then ((bif decide (0 ≤ i') && decide (i' < v0) then some () else none).bind fun () => ((x'[Int.toNat i']?).bind fun ⟨y2_0, ⟨y2_1, ⟨y2_2, y2_3⟩⟩⟩ => (let v1 : Int := ↑(List.length y'); (bif decide (0 ≤ i') && decide (i' < v1) then some () else none).bind fun () => ((y'[Int.toNat i']?).bind fun ⟨y4_0, ⟨y4_1, ⟨y4_2, y4_3⟩⟩⟩ => (bif y2_0 != y4_0 then (some (.inr (.inr (false, ())))) else ((bif decide (0 ≤ i') && decide (i' < v0) then some () else none).bind fun () => ((x'[Int.toNat i']?).bind fun ⟨y7_0, ⟨y7_1, ⟨y7_2, y7_3⟩⟩⟩ => ((bif decide (0 ≤ i') && decide (i' < v1) then some () else none).bind fun () => ((y'[Int.toNat i']?).bind fun ⟨y9_0, ⟨y9_1, ⟨y9_2, y9_3⟩⟩⟩ => (bif y7_1 != y9_1 then (some (.inr (.inr (false, ())))) else ((bif decide (0 ≤ i') && decide (i' < v0) then some () else none).bind fun () => ((x'[Int.toNat i']?).bind fun ⟨y12_0, ⟨y12_1, ⟨y12_2, y12_3⟩⟩⟩ => ((bif decide (0 ≤ i') && decide (i' < v1) then some () else none).bind fun () => ((y'[Int.toNat i']?).bind fun ⟨y14_0, ⟨y14_1, ⟨y14_2, y14_3⟩⟩⟩ => (bif !ByteArray.toList y12_2 == ByteArray.toList y14_2 then (some (.inr (.inr (false, ())))) else (let v2 : Int := i' + 1; let v3 : Int := IntKind.wrap IntKind.i64 v2; some (.inl (drop', ((a'_0, (a'_1, ())), (x', (y', (v3, ())))))))))))))))))))))) else (some (.inr (.inl (drop', ((a'_0, (a'_1, ())), (x', ())))))))
def R5_2 : LA5_2 → Option (LA5_2 ⊕ LB5_2) := Q5_2 N7 N8 N9 N10 N16 N13 N11
def L5_2 : Lc τ := ⟨li5_2, itrs R5_2, lo5_2⟩
abbrev LA5_0 : Type := ((List T30) × Int × (List T30 × (Int × Unit)) × (List T30 × (Int × Unit)) × Int × Unit)
abbrev LB5_0 : Type := (Int × (List T30 × (Int × Unit)) × (List T30 × (Int × Unit)) × Unit)
def li5_0 : Fr τ LA5_0 := (.val 0 (.sl 30) (.val 1 (.int .i64) (.ptr 5 none 50 (.own 30 (.val (.int .i64) .nil)) (.ptr 6 none 50 (.own 30 (.val (.int .i64) .nil)) (.val 7 (.int .i64) .nil)))))
def lo5_0 : Ot τ LB5_0 := .one (.exit 0) (.val 1 (.int .i64) (.ptr 5 none 50 (.own 30 (.val (.int .i64) .nil)) (.ptr 6 none 50 (.own 30 (.val (.int .i64) .nil)) .nil)))
def Q5_0 (c7 : A7 → Option B7) (c8 : A8 → Option B8) (c9 : A9 → Option B9) (c10 : A10 → Option B10) (c16 : A16 → Option B16) (c13 : A13 → Option B13) (c11 : A11 → Option B11) : LA5_0 → Option (LA5_0 ⊕ LB5_0) := fun ⟨list', ⟨drop', ⟨⟨a'_0, ⟨a'_1, ()⟩⟩, ⟨⟨b'_0, ⟨b'_1, ()⟩⟩, ⟨i', ()⟩⟩⟩⟩⟩ => (let v0 : Int := ↑(List.length list'); bif decide (i' < v0) then ((bif decide (0 ≤ i') then list'[Int.toNat i']? else none).bind fun ⟨y1_0, ⟨y1_1, ⟨y1_2, y1_3⟩⟩⟩ => ((bif decide (0 ≤ i') then list'[Int.toNat i']? else none).bind fun ⟨y2_0, ⟨y2_1, ⟨y2_2, y2_3⟩⟩⟩ => ((bif decide (0 ≤ i') then list'[Int.toNat i']? else none).bind fun ⟨y3_0, ⟨y3_1, ⟨y3_2, y3_3⟩⟩⟩ => ((c9 ((a'_0, (a'_1, ())), (y1_0, (y2_1, (y3_2, ()))))).bind fun ⟨y4_0, ⟨y4_1, ⟨⟨y4_2, ⟨y4_3, ()⟩⟩, ()⟩⟩⟩ => (let v1 : Int := v0 - 1; let v2 : Int := IntKind.wrap IntKind.i64 v1; let v3 : Int := v2 - i'; let v4 : Int := IntKind.wrap IntKind.i64 v3; (bif decide (0 ≤ v4) then list'[Int.toNat v4]? else none).bind fun ⟨y5_0, ⟨y5_1, ⟨y5_2, y5_3⟩⟩⟩ => ((bif decide (0 ≤ v4) then list'[Int.toNat v4]? else none).bind fun ⟨y6_0, ⟨y6_1, ⟨y6_2, y6_3⟩⟩⟩ => ((bif decide (0 ≤ v4) then list'[Int.toNat v4]? else none).bind fun ⟨y7_0, ⟨y7_1, ⟨y7_2, y7_3⟩⟩⟩ => ((c9 ((b'_0, (b'_1, ())), (y5_0, (y6_1, (y7_2, ()))))).bind fun ⟨y8_0, ⟨y8_1, ⟨⟨y8_2, ⟨y8_3, ()⟩⟩, ()⟩⟩⟩ => (let v5 : Int := i' + 1; let v6 : Int := IntKind.wrap IntKind.i64 v5; some (.inl (list', (drop', ((y4_2, (y4_3, ())), ((y8_2, (y8_3, ())), (v6, ()))))))))))))))) else (some (.inr (drop', ((a'_0, (a'_1, ())), ((b'_0, (b'_1, ())), ()))))))
def R5_0 : LA5_0 → Option (LA5_0 ⊕ LB5_0) := Q5_0 N7 N8 N9 N10 N16 N13 N11
def L5_0 : Lc τ := ⟨li5_0, itrs R5_0, lo5_0⟩
def M5 (c7 : A7 → Option B7) (c8 : A8 → Option B8) (c9 : A9 → Option B9) (c10 : A10 → Option B10) (c16 : A16 → Option B16) (c13 : A13 → Option B13) (c11 : A11 → Option B11) (l5_0 : LA5_0 → Option LB5_0) (l5_2 : LA5_2 → Option LB5_2) (l5_4 : LA5_4 → Option LB5_4) (l5_6 : LA5_6 → Option LB5_6) : A5 → Option B5 := fun ⟨list', ⟨drop', ()⟩⟩ => ((c7 ()).bind fun ⟨y0, ()⟩ => (bif !y0 then (some (false, ())) else (let v0 : Int := ↑(List.length list'); bif decide (v0 > 600) then (some (true, ())) else ((c8 ()).bind fun ⟨⟨y3_0, ⟨y3_1, ()⟩⟩, ()⟩ => ((c8 ()).bind fun ⟨⟨y4_0, ⟨y4_1, ()⟩⟩, ()⟩ => ((l5_0 (list', (drop', ((y3_0, (y3_1, ())), ((y4_0, (y4_1, ())), (0, ())))))).bind fun ⟨y5_0, ⟨⟨y5_1, ⟨y5_2, ()⟩⟩, ⟨⟨y5_3, ⟨y5_4, ()⟩⟩, ()⟩⟩⟩ => ((c10 ((y5_1, y5_2), ())).bind fun ⟨y6, ()⟩ => ((c10 ((y5_3, y5_4), ())).bind fun ⟨y7, ()⟩ => (let v1 : Int := ↑(List.length y6); let v2 : Int := ↑(List.length y7); bif v1 != v2 then (some (false, ())) else ((l5_2 (y5_0, ((y5_1, (y5_2, ())), (y6, (y7, (0, ())))))).bind fun y9 => (match y9 with | .inl ⟨y10_0, ⟨⟨y10_1, ⟨y10_2, ()⟩⟩, ⟨y10_3, ()⟩⟩⟩ => ((l5_4 (y10_0, ((y10_1, (y10_2, ())), (y10_3, (false, (0, ())))))).bind fun ⟨y11_0, ⟨⟨y11_1, ⟨y11_2, ()⟩⟩, ⟨y11_3, ⟨y11_4, ()⟩⟩⟩⟩ => ((c16 ((y11_1, (y11_2, ())), (y11_0, ()))).bind fun ⟨y12_0, ⟨⟨y12_1, ⟨y12_2, ()⟩⟩, ()⟩⟩ => (bif !y12_0 == y11_4 then (some (false, ())) else ((c16 ((y12_1, (y12_2, ())), (y11_0, ()))).bind fun ⟨y14_0, ⟨⟨y14_1, ⟨y14_2, ()⟩⟩, ()⟩⟩ => (bif y14_0 then (some (false, ())) else ((l5_6 (y11_0, ((y14_1, (y14_2, ())), (y11_3, (0, (0, ())))))).bind fun y16 => (match y16 with | .inl ⟨⟨y17_0, ⟨y17_1, ()⟩⟩, ⟨y17_2, ⟨y17_3, ()⟩⟩⟩ => ((c11 ((y17_0, (y17_1, ())), ())).bind fun ⟨y18_0, ⟨⟨y18_1, ⟨y18_2, ()⟩⟩, ()⟩⟩ => (bif y18_0 == 0 then (let v3 : Int := ↑(List.length y17_2); some (decide (y17_3 ≤ v3), ())) else (some (false, ())))) | .inr ⟨y17, ()⟩ => (some (y17, ()))))))))) | .inr ⟨y10, ()⟩ => (some (y10, ())))))))))))))
def N5 : A5 → Option B5 := M5 N7 N8 N9 N10 N16 N13 N11 (itrs R5_0) (itrs R5_2) (itrs R5_4) (itrs R5_6)
def C5 : Ctr τ := ⟨i5, o5, N5, 0⟩
theorem g5 : GOK κ Try.prog (G5 N7 N8 N9 N10 N16 N13 N11) := (gok_cons s7 (keeps0 rfl) (gok_cons s8 (keeps0 rfl) (gok_cons s9 (keeps0 rfl) (gok_cons s10 (keeps0 rfl) (gok_cons s16 (keeps0 rfl) (gok_cons s13 (keeps0 rfl) (gok_cons s11 (keeps0 rfl) gok_nil)))))))
theorem le5_6 : ∀ (c7 : A7 → Option B7) (c8 : A8 → Option B8) (c9 : A9 → Option B9) (c10 : A10 → Option B10) (c16 : A16 → Option B16) (c13 : A13 → Option B13) (c11 : A11 → Option B11) x, Q5_6 c7 c8 c9 c10 c16 c13 c11 x = run Try.prog κ (G5 c7 c8 c9 c10 c16 c13 c11) (tabL []) 6 (loopAt Try.f5 3) (li5_6.build x) (rnd li5_6 lo5_6) := fun c7 c8 c9 c10 c16 c13 c11 x => by kernel_rfl
theorem le5_4 : ∀ (c7 : A7 → Option B7) (c8 : A8 → Option B8) (c9 : A9 → Option B9) (c10 : A10 → Option B10) (c16 : A16 → Option B16) (c13 : A13 → Option B13) (c11 : A11 → Option B11) x, Q5_4 c7 c8 c9 c10 c16 c13 c11 x = run Try.prog κ (G5 c7 c8 c9 c10 c16 c13 c11) (tabL []) 4 (loopAt Try.f5 2) (li5_4.build x) (rnd li5_4 lo5_4) := fun c7 c8 c9 c10 c16 c13 c11 x => by kernel_rfl
theorem le5_2 : ∀ (c7 : A7 → Option B7) (c8 : A8 → Option B8) (c9 : A9 → Option B9) (c10 : A10 → Option B10) (c16 : A16 → Option B16) (c13 : A13 → Option B13) (c11 : A11 → Option B11) x, Q5_2 c7 c8 c9 c10 c16 c13 c11 x = run Try.prog κ (G5 c7 c8 c9 c10 c16 c13 c11) (tabL []) 2 (loopAt Try.f5 1) (li5_2.build x) (rnd li5_2 lo5_2) := fun c7 c8 c9 c10 c16 c13 c11 x => by kernel_rfl
theorem le5_0 : ∀ (c7 : A7 → Option B7) (c8 : A8 → Option B8) (c9 : A9 → Option B9) (c10 : A10 → Option B10) (c16 : A16 → Option B16) (c13 : A13 → Option B13) (c11 : A11 → Option B11) x, Q5_0 c7 c8 c9 c10 c16 c13 c11 x = run Try.prog κ (G5 c7 c8 c9 c10 c16 c13 c11) (tabL []) 0 (loopAt Try.f5 0) (li5_0.build x) (rnd li5_0 lo5_0) := fun c7 c8 c9 c10 c16 c13 c11 x => by kernel_rfl
theorem linner5_6 : ∀ Z : Zn, Z.rl = [] → 193 ≤ Z.nt → ∀ p ∈ loops 6 (loopAt Try.f5 3), ∀ C, (tabL []) p.1 = some C → LoopOK κ Try.prog Z p.2 C := fun Z h n => fun p hp => (by cases (show p ∈ ([] : List (Nat × Code)) from hp))
theorem lk5_6 : ∀ Z : Zn, Z.rl = [] → 193 ≤ Z.nt → LoopOK κ Try.prog Z (loopAt Try.f5 3) L5_6 := fun Z h n => loop_ok (S := (tabL [])) R5_6 (by kernel_rfl) g5 (by rw [h]; exact dsts_mono n _ (by kernel_rfl)) (linner5_6 Z h n) (by kernel_rfl) (by kernel_rfl) (le5_6 N7 N8 N9 N10 N16 N13 N11) itrs_rounds
theorem linner5_4 : ∀ Z : Zn, Z.rl = [] → 193 ≤ Z.nt → ∀ p ∈ loops 4 (loopAt Try.f5 2), ∀ C, (tabL []) p.1 = some C → LoopOK κ Try.prog Z p.2 C := fun Z h n => fun p hp => (by cases (show p ∈ ([] : List (Nat × Code)) from hp))
theorem lk5_4 : ∀ Z : Zn, Z.rl = [] → 193 ≤ Z.nt → LoopOK κ Try.prog Z (loopAt Try.f5 2) L5_4 := fun Z h n => loop_ok (S := (tabL [])) R5_4 (by kernel_rfl) g5 (by rw [h]; exact dsts_mono n _ (by kernel_rfl)) (linner5_4 Z h n) (by kernel_rfl) (by kernel_rfl) (le5_4 N7 N8 N9 N10 N16 N13 N11) itrs_rounds
theorem linner5_2 : ∀ Z : Zn, Z.rl = [] → 193 ≤ Z.nt → ∀ p ∈ loops 2 (loopAt Try.f5 1), ∀ C, (tabL []) p.1 = some C → LoopOK κ Try.prog Z p.2 C := fun Z h n => fun p hp => (by cases (show p ∈ ([] : List (Nat × Code)) from hp))
theorem lk5_2 : ∀ Z : Zn, Z.rl = [] → 193 ≤ Z.nt → LoopOK κ Try.prog Z (loopAt Try.f5 1) L5_2 := fun Z h n => loop_ok (S := (tabL [])) R5_2 (by kernel_rfl) g5 (by rw [h]; exact dsts_mono n _ (by kernel_rfl)) (linner5_2 Z h n) (by kernel_rfl) (by kernel_rfl) (le5_2 N7 N8 N9 N10 N16 N13 N11) itrs_rounds
theorem linner5_0 : ∀ Z : Zn, Z.rl = [] → 193 ≤ Z.nt → ∀ p ∈ loops 0 (loopAt Try.f5 0), ∀ C, (tabL []) p.1 = some C → LoopOK κ Try.prog Z p.2 C := fun Z h n => fun p hp => (by cases (show p ∈ ([] : List (Nat × Code)) from hp))
theorem lk5_0 : ∀ Z : Zn, Z.rl = [] → 193 ≤ Z.nt → LoopOK κ Try.prog Z (loopAt Try.f5 0) L5_0 := fun Z h n => loop_ok (S := (tabL [])) R5_0 (by kernel_rfl) g5 (by rw [h]; exact dsts_mono n _ (by kernel_rfl)) (linner5_0 Z h n) (by kernel_rfl) (by kernel_rfl) (le5_0 N7 N8 N9 N10 N16 N13 N11) itrs_rounds
theorem lall5 : ∀ Z : Zn, Z.rl = C5.o.keeps → Try.f5.ntmps ≤ Z.nt → ∀ p ∈ loops 0 (bodyOf Try.f5), ∀ C, (tabL [(0, L5_0), (2, L5_2), (4, L5_4), (6, L5_6)]) p.1 = some C → LoopOK κ Try.prog Z p.2 C := fun Z h n => all_loops [(0, loopAt Try.f5 0), (2, loopAt Try.f5 1), (4, loopAt Try.f5 2), (6, loopAt Try.f5 3)] (by kernel_rfl) (all_cons (fun C hC => (Option.some.inj hC : L5_0 = C) ▸ lk5_0 Z h n) (all_cons (fun C hC => (Option.some.inj hC : L5_2 = C) ▸ lk5_2 Z h n) (all_cons (fun C hC => (Option.some.inj hC : L5_4 = C) ▸ lk5_4 Z h n) (all_cons (fun C hC => (Option.some.inj hC : L5_6 = C) ▸ lk5_6 Z h n) (fun _ h => by cases h)))))
theorem e5 : ∀ (c7 : A7 → Option B7) (c8 : A8 → Option B8) (c9 : A9 → Option B9) (c10 : A10 → Option B10) (c16 : A16 → Option B16) (c13 : A13 → Option B13) (c11 : A11 → Option B11) (l5_0 : LA5_0 → Option LB5_0) (l5_2 : LA5_2 → Option LB5_2) (l5_4 : LA5_4 → Option LB5_4) (l5_6 : LA5_6 → Option LB5_6) x, M5 c7 c8 c9 c10 c16 c13 c11 l5_0 l5_2 l5_4 l5_6 x = fnE Try.prog κ (G5 c7 c8 c9 c10 c16 c13 c11) (tabL [(0, (⟨li5_0, l5_0, lo5_0⟩ : Lc τ)), (2, (⟨li5_2, l5_2, lo5_2⟩ : Lc τ)), (4, (⟨li5_4, l5_4, lo5_4⟩ : Lc τ)), (6, (⟨li5_6, l5_6, lo5_6⟩ : Lc τ))]) Try.f5 i5 o5 x := fun c7 c8 c9 c10 c16 c13 c11 l5_0 l5_2 l5_4 l5_6 x => by kernel_rfl
theorem s5 : Sound κ Try.prog C5 5 := fn_sound (S := (tabL [(0, L5_0), (2, L5_2), (4, L5_4), (6, L5_6)])) (F := Try.f5) (code := bodyOf Try.f5) (by kernel_rfl) g5 Try.func5 (by kernel_rfl) (by kernel_rfl) (by kernel_rfl) lall5 (by kernel_rfl) (by kernel_rfl) fun x y h => (e5 N7 N8 N9 N10 N16 N13 N11 (itrs R5_0) (itrs R5_2) (itrs R5_4) (itrs R5_6) x).symm.trans h
end Go.Proofs.Ytdcfpgkgaaobhaa.E
namespace Go.Proofs.Ytdcfpgkgaaobhaa.E
open Go
set_option linter.unusedVariables false
set_option maxRecDepth 100000
abbrev A14 : Type := ((List T30 × (Int × Unit)) × Int × Int × ByteArray × Unit)
abbrev B14 : Type := (Int × Int × (List T30 × (Int × Unit)) × Unit)
def i14 : Fr τ A14 := (.ptr 0 none 40 (.own 30 (.val (.int .i64) .nil)) (.val 1 (.int .i64) (.val 2 (.int .i64) (.val 3 .str .nil))))
def o14 : Fr τ B14 := (.val 1000 (.int .i64) (.val 1001 (.int .i64) (.ptr 0 none 40 (.own 30 (.val (.int .i64) .nil)) .nil)))
def G14 (c12 : A12 → Option B12) : Nat → Option (Ctr τ) := tabG [(12, (⟨i12, o12, c12, 0⟩ : Ctr τ))]
abbrev LA14_0 : Type := ((List T30 × (Int × Unit)) × (Int × (Int × (ByteArray × (Int × Unit)))) × Int × Unit)
abbrev LB14_0 : Type := ((List T30 × (Int × Unit)) × (Int × (Int × (ByteArray × (Int × Unit)))) × Int × Unit)
def li14_0 : Fr τ LA14_0 := (.ptr 0 none 40 (.own 30 (.val (.int .i64) .nil)) (.ptr 10 none 30 (.val (.int .i64) (.val (.int .i64) (.val .str (.val (.int .i64) .nil)))) (.val 11 (.int .i64) .nil)))
def lo14_0 : Ot τ LB14_0 := .one (.exit 0) (.ptr 0 none 40 (.own 30 (.val (.int .i64) .nil)) (.ptr 10 none 30 (.val (.int .i64) (.val (.int .i64) (.val .str (.val (.int .i64) .nil)))) (.val 11 (.int .i64) .nil)))
def Q14_0 (c12 : A12 → Option B12) : LA14_0 → Option (LA14_0 ⊕ LB14_0) := fun ⟨⟨a'_0, ⟨a'_1, ()⟩⟩, ⟨⟨d'_0, ⟨d'_1, ⟨d'_2, ⟨d'_3, ()⟩⟩⟩⟩, ⟨at', ()⟩⟩⟩ => (let v0 : Int := ↑(List.length a'_0); bif decide (at' < v0) then ((bif decide (0 ≤ at') && decide (at' < v0) then some () else none).bind fun () => ((a'_0[Int.toNat at']?).bind fun ⟨y2_0, ⟨y2_1, ⟨y2_2, y2_3⟩⟩⟩ => ((c12 ((y2_0, (y2_1, (y2_2, y2_3))), ((d'_0, (d'_1, (d'_2, d'_3))), ()))).bind fun ⟨y3, ()⟩ => (bif y3 then (let v1 : Int := at' + 1; let v2 : Int := IntKind.wrap IntKind.i64 v1; some (.inl ((a'_0, (a'_1, ())), ((d'_0, (d'_1, (d'_2, (d'_3, ())))), (v2, ()))))) else (some (.inr ((a'_0, (a'_1, ())), ((d'_0, (d'_1, (d'_2, (d'_3, ())))), (at', ()))))))))) else (some (.inr ((a'_0, (a'_1, ())), ((d'_0, (d'_1, (d'_2, (d'_3, ())))), (at', ()))))))
def R14_0 : LA14_0 → Option (LA14_0 ⊕ LB14_0) := Q14_0 N12
def L14_0 : Lc τ := ⟨li14_0, itrs R14_0, lo14_0⟩
def M14 (c12 : A12 → Option B12) (l14_0 : LA14_0 → Option LB14_0) : A14 → Option B14 := fun ⟨⟨a'_0, ⟨a'_1, ()⟩⟩, ⟨day', ⟨kind', ⟨key', ()⟩⟩⟩⟩ => (bif decide (kind' < 0) then (some (0, (1, ((a'_0, (a'_1, ())), ())))) else (bif decide (kind' > 9) then (some (0, (1, ((a'_0, (a'_1, ())), ())))) else (let v0 : Int := ↑(ByteArray.size key'); bif decide (v0 > 32) then (some (0, (1, ((a'_0, (a'_1, ())), ())))) else (bif decide (day' < 0) then (some (0, (221, ((a'_0, (a'_1, ())), ())))) else (bif decide (day' > 1000000) then (some (0, (221, ((a'_0, (a'_1, ())), ())))) else (let v1 : Int := ↑(List.length a'_0); bif decide (v1 ≥ 4096) then (some (0, (3, ((a'_0, (a'_1, ())), ())))) else (let v2 : Int := a'_1 + 1; let v3 : Int := IntKind.wrap IntKind.i64 v2; (l14_0 ((a'_0, (v3, ())), ((day', (kind', (key', (v3, ())))), (0, ())))).bind fun ⟨⟨y6_0, ⟨y6_1, ()⟩⟩, ⟨⟨y6_2, ⟨y6_3, ⟨y6_4, ⟨y6_5, ()⟩⟩⟩⟩, ⟨y6_6, ()⟩⟩⟩ => (let v4 : Int := ↑(List.length y6_0); (bif decide (0 ≤ y6_6) && decide (y6_6 ≤ v4) && decide (v4 ≤ v4) then some () else none).bind fun () => ((bif decide ((0 + List.length (List.take (Int.toNat v4 - Int.toNat y6_6) (List.drop (Int.toNat y6_6) y6_0))) * 40 ≤ 210000000000000) then some () else none).bind fun () => ((bif true && decide (0 ≤ y6_6) && decide (y6_6 ≤ v4) then some () else none).bind fun () => ((bif decide ((Int.toNat y6_6 - 0 + 1) * 40 ≤ 210000000000000) && decide (Int.toNat y6_6 - 0 ≤ List.length y6_0) then some () else none).bind fun () => ((bif decide ((List.length (List.take (Int.toNat y6_6 - 0) y6_0 ++ [(y6_2, y6_3, y6_4, y6_5)]) + List.length ([] ++ List.take (Int.toNat v4 - Int.toNat y6_6) (List.drop (Int.toNat y6_6) y6_0))) * 40 ≤ 210000000000000) then some () else none).bind fun () => (some (y6_1, (0, ((List.take (Int.toNat y6_6 - 0) y6_0 ++ [(y6_2, y6_3, y6_4, y6_5)] ++ ([] ++ List.take (Int.toNat v4 - Int.toNat y6_6) (List.drop (Int.toNat y6_6) y6_0)), (y6_1, ())), ()))))))))))))))))
def N14 : A14 → Option B14 := M14 N12 (itrs R14_0)
def C14 : Ctr τ := ⟨i14, o14, N14, 0⟩
theorem g14 : GOK κ Try.prog (G14 N12) := (gok_cons s12 (keeps0 rfl) gok_nil)
theorem le14_0 : ∀ (c12 : A12 → Option B12) x, Q14_0 c12 x = run Try.prog κ (G14 c12) (tabL []) 0 (loopAt Try.f14 0) (li14_0.build x) (rnd li14_0 lo14_0) := fun c12 x => by kernel_rfl
theorem linner14_0 : ∀ Z : Zn, Z.rl = [0] → 104 ≤ Z.nt → ∀ p ∈ loops 0 (loopAt Try.f14 0), ∀ C, (tabL []) p.1 = some C → LoopOK κ Try.prog Z p.2 C := fun Z h n => fun p hp => (by cases (show p ∈ ([] : List (Nat × Code)) from hp))
theorem lk14_0 : ∀ Z : Zn, Z.rl = [0] → 104 ≤ Z.nt → LoopOK κ Try.prog Z (loopAt Try.f14 0) L14_0 := fun Z h n => loop_ok (S := (tabL [])) R14_0 (by kernel_rfl) g14 (by rw [h]; exact dsts_mono n _ (by kernel_rfl)) (linner14_0 Z h n) (by kernel_rfl) (by kernel_rfl) (le14_0 N12) itrs_rounds
theorem lall14 : ∀ Z : Zn, Z.rl = C14.o.keeps → Try.f14.ntmps ≤ Z.nt → ∀ p ∈ loops 0 (bodyOf Try.f14), ∀ C, (tabL [(0, L14_0)]) p.1 = some C → LoopOK κ Try.prog Z p.2 C := fun Z h n => all_loops [(0, loopAt Try.f14 0)] (by kernel_rfl) (all_cons (fun C hC => (Option.some.inj hC : L14_0 = C) ▸ lk14_0 Z h n) (fun _ h => by cases h))
theorem e14 : ∀ (c12 : A12 → Option B12) (l14_0 : LA14_0 → Option LB14_0) x, M14 c12 l14_0 x = fnE Try.prog κ (G14 c12) (tabL [(0, (⟨li14_0, l14_0, lo14_0⟩ : Lc τ))]) Try.f14 i14 o14 x := fun c12 l14_0 x => by kernel_rfl
theorem s14 : Sound κ Try.prog C14 14 := fn_sound (S := (tabL [(0, L14_0)])) (F := Try.f14) (code := bodyOf Try.f14) (by kernel_rfl) g14 Try.func14 (by kernel_rfl) (by kernel_rfl) (by kernel_rfl) lall14 (by kernel_rfl) (by kernel_rfl) fun x y h => (e14 N12 (itrs R14_0) x).symm.trans h
end Go.Proofs.Ytdcfpgkgaaobhaa.E
namespace Go.Proofs.Ytdcfpgkgaaobhaa.E
open Go
set_option linter.unusedVariables false
set_option maxRecDepth 100000
abbrev A15 : Type := ((List T30 × (Int × Unit)) × Int × Unit)
abbrev B15 : Type := ((Int × (Int × (ByteArray × Int))) × Bool × (List T30 × (Int × Unit)) × Unit)
def i15 : Fr τ A15 := (.ptr 0 none 40 (.own 30 (.val (.int .i64) .nil)) (.val 1 (.int .i64) .nil))
def o15 : Fr τ B15 := (.val 1000 (.pair (.int .i64) (.pair (.int .i64) (.pair .str (.int .i64)))) (.val 1001 .bool (.ptr 0 none 40 (.own 30 (.val (.int .i64) .nil)) .nil)))
def G15 : Nat → Option (Ctr τ) := tabG []
def M15 : A15 → Option B15 := fun ⟨⟨a'_0, ⟨a'_1, ()⟩⟩, ⟨until', ()⟩⟩ => (let v0 : Int := ↑(List.length a'_0); bif v0 == 0 then (some ((0, (0, ({ data := #[] }, 0))), (false, ((a'_0, (a'_1, ())), ())))) else ((bif true && decide (0 < v0) then some () else none).bind fun () => ((a'_0[0]?).bind fun ⟨y2_0, ⟨y2_1, ⟨y2_2, y2_3⟩⟩⟩ => (bif decide (y2_0 > until') then (some ((0, (0, ({ data := #[] }, 0))), (false, ((a'_0, (a'_1, ())), ())))) else ((bif true && decide (0 < v0) then some () else none).bind fun () => ((a'_0[0]?).bind fun ⟨y5_0, ⟨y5_1, ⟨y5_2, y5_3⟩⟩⟩ => ((bif true && decide (1 ≤ v0) && decide (v0 ≤ v0) then some () else none).bind fun () => ((bif Nat.ble (1 + (Int.toNat v0 - 1)) (List.length a'_0) then some () else none).bind fun () => (some ((y5_0, (y5_1, (y5_2, y5_3))), (true, ((List.take (Int.toNat v0 - 1) (List.drop 1 a'_0), (a'_1, ())), ()))))))))))))
def N15 : A15 → Option B15 := M15
def C15 : Ctr τ := ⟨i15, o15, N15, 0⟩
theorem g15 : GOK κ Try.prog (G15) := gok_nil
theorem lall15 : ∀ Z : Zn, Z.rl = C15.o.keeps → Try.f15.ntmps ≤ Z.nt → ∀ p ∈ loops 0 (bodyOf Try.f15), ∀ C, (tabL []) p.1 = some C → LoopOK κ Try.prog Z p.2 C := fun Z h n => fun p hp => (by cases (show p ∈ ([] : List (Nat × Code)) from hp))
theorem e15 : ∀ x, M15 x = fnE Try.prog κ (G15) (tabL []) Try.f15 i15 o15 x := fun x => by kernel_rfl
theorem s15 : Sound κ Try.prog C15 15 := fn_sound (S := (tabL [])) (F := Try.f15) (code := bodyOf Try.f15) (by kernel_rfl) g15 Try.func15 (by kernel_rfl) (by kernel_rfl) (by kernel_rfl) lall15 (by kernel_rfl) (by kernel_rfl) fun x y h => (e15 x).symm.trans h
end Go.Proofs.Ytdcfpgkgaaobhaa.E
namespace Go.Proofs.Ytdcfpgkgaaobhaa.E
open Go
set_option linter.unusedVariables false
set_option maxRecDepth 100000
abbrev A17 : Type := ((List T30 × (Int × Unit)) × Int × Unit)
abbrev B17 : Type := (Bool × (List T30 × (Int × Unit)) × Unit)
def i17 : Fr τ A17 := (.ptr 0 none 40 (.own 30 (.val (.int .i64) .nil)) (.val 1 (.int .i64) .nil))
def o17 : Fr τ B17 := (.val 1000 .bool (.ptr 0 none 40 (.own 30 (.val (.int .i64) .nil)) .nil))
def G17 : Nat → Option (Ctr τ) := tabG []
abbrev LA17_0 : Type := ((List T30 × (Int × Unit)) × Int × Int × Unit)
abbrev LB17_0 : Type := ((List T30 × (Int × Unit)) × Unit) ⊕ ((List T30 × (Int × Unit)) × Bool × Unit)
def li17_0 : Fr τ LA17_0 := (.ptr 0 none 40 (.own 30 (.val (.int .i64) .nil)) (.val 1 (.int .i64) (.val 5 (.int .i64) .nil)))
def lo17_0 : Ot τ LB17_0 := .alt (.exit 0) (.ptr 0 none 40 (.own 30 (.val (.int .i64) .nil)) .nil) (.one .ret (.ptr 0 none 40 (.own 30 (.val (.int .i64) .nil)) (.val 4 .bool .nil)))
def Q17_0 : LA17_0 → Option (LA17_0 ⊕ LB17_0) := fun ⟨⟨a'_0, ⟨a'_1, ()⟩⟩, ⟨number', ⟨i', ()⟩⟩⟩ => (let v0 : Int := ↑(List.length a'_0); bif decide (i' < v0) then ((bif decide (0 ≤ i') && decide (i' < v0) then some () else none).bind fun () => ((a'_0[Int.toNat i']?).bind fun ⟨y2_0, ⟨y2_1, ⟨y2_2, y2_3⟩⟩⟩ => (bif y2_3 == number' then (let v1 : Int := i' + 1; let v2 : Int := IntKind.wrap IntKind.i64 v1; (bif decide (0 ≤ v2) && decide (v2 ≤ v0) && decide (v0 ≤ v0) then some () else none).bind fun () => ((bif decide ((0 + List.length (List.take (Int.toNat v0 - Int.toNat v2) (List.drop (Int.toNat v2) a'_0))) * 40 ≤ 210000000000000) then some () else none).bind fun () => ((bif true && decide (0 ≤ i') && decide (i' ≤ v0) then some () else none).bind fun () => ((bif decide ((Int.toNat i' - 0 + List.length ([] ++ List.take (Int.toNat v0 - Int.toNat v2) (List.drop (Int.toNat v2) a'_0))) * 40 ≤ 210000000000000) && decide (Int.toNat i' - 0 ≤ List.length a'_0) then some () else none).bind fun () => (some (.inr (.inr ((List.take (Int.toNat i' - 0) a'_0 ++ ([] ++ List.take (Int.toNat v0 - Int.toNat v2) (List.drop (Int.toNat v2) a'_0)), (a'_1, ())), (true, ()))))))))) else (let v1 : Int := i' + 1; let v2 : Int := IntKind.wrap IntKind.i64 v1; some (.inl ((a'_0, (a'_1, ())), (number', (v2, ())))))))) else (some (.inr (.inl ((a'_0, (a'_1, ())), ())))))
def R17_0 : LA17_0 → Option (LA17_0 ⊕ LB17_0) := Q17_0
def L17_0 : Lc τ := ⟨li17_0, itrs R17_0, lo17_0⟩
def M17 (l17_0 : LA17_0 → Option LB17_0) : A17 → Option B17 := fun ⟨⟨a'_0, ⟨a'_1, ()⟩⟩, ⟨number', ()⟩⟩ => ((l17_0 ((a'_0, (a'_1, ())), (number', (0, ())))).bind fun y0 => (match y0 with | .inl ⟨⟨y1_0, ⟨y1_1, ()⟩⟩, ()⟩ => (some (false, ((y1_0, (y1_1, ())), ()))) | .inr ⟨⟨y1_0, ⟨y1_1, ()⟩⟩, ⟨y1_2, ()⟩⟩ => (some (y1_2, ((y1_0, (y1_1, ())), ())))))
def N17 : A17 → Option B17 := M17 (itrs R17_0)
def C17 : Ctr τ := ⟨i17, o17, N17, 0⟩
theorem g17 : GOK κ Try.prog (G17) := gok_nil
theorem le17_0 : ∀ x, Q17_0 x = run Try.prog κ (G17) (tabL []) 0 (loopAt Try.f17 0) (li17_0.build x) (rnd li17_0 lo17_0) := fun x => by kernel_rfl
theorem linner17_0 : ∀ Z : Zn, Z.rl = [0] → 46 ≤ Z.nt → ∀ p ∈ loops 0 (loopAt Try.f17 0), ∀ C, (tabL []) p.1 = some C → LoopOK κ Try.prog Z p.2 C := fun Z h n => fun p hp => (by cases (show p ∈ ([] : List (Nat × Code)) from hp))
theorem lk17_0 : ∀ Z : Zn, Z.rl = [0] → 46 ≤ Z.nt → LoopOK κ Try.prog Z (loopAt Try.f17 0) L17_0 := fun Z h n => loop_ok (S := (tabL [])) R17_0 (by kernel_rfl) g17 (by rw [h]; exact dsts_mono n _ (by kernel_rfl)) (linner17_0 Z h n) (by kernel_rfl) (by kernel_rfl) (le17_0) itrs_rounds
theorem lall17 : ∀ Z : Zn, Z.rl = C17.o.keeps → Try.f17.ntmps ≤ Z.nt → ∀ p ∈ loops 0 (bodyOf Try.f17), ∀ C, (tabL [(0, L17_0)]) p.1 = some C → LoopOK κ Try.prog Z p.2 C := fun Z h n => all_loops [(0, loopAt Try.f17 0)] (by kernel_rfl) (all_cons (fun C hC => (Option.some.inj hC : L17_0 = C) ▸ lk17_0 Z h n) (fun _ h => by cases h))
theorem e17 : ∀ (l17_0 : LA17_0 → Option LB17_0) x, M17 l17_0 x = fnE Try.prog κ (G17) (tabL [(0, (⟨li17_0, l17_0, lo17_0⟩ : Lc τ))]) Try.f17 i17 o17 x := fun l17_0 x => by kernel_rfl
theorem s17 : Sound κ Try.prog C17 17 := fn_sound (S := (tabL [(0, L17_0)])) (F := Try.f17) (code := bodyOf Try.f17) (by kernel_rfl) g17 Try.func17 (by kernel_rfl) (by kernel_rfl) (by kernel_rfl) lall17 (by kernel_rfl) (by kernel_rfl) fun x y h => (e17 (itrs R17_0) x).symm.trans h
end Go.Proofs.Ytdcfpgkgaaobhaa.E
namespace Go.Proofs.Ytdcfpgkgaaobhaa.E
open Go
set_option linter.unusedVariables false
set_option maxRecDepth 100000
abbrev A19 : Type := (T40 × Unit)
abbrev B19 : Type := ((Int × (Int × (ByteArray × Int))) × Bool × Unit)
def i19 : Fr τ A19 := (.val 0 (.ref 40) .nil)
def o19 : Fr τ B19 := (.val 1000 (.pair (.int .i64) (.pair (.int .i64) (.pair .str (.int .i64)))) (.val 1001 .bool .nil))
def G19 : Nat → Option (Ctr τ) := tabG []
def M19 : A19 → Option B19 := fun ⟨⟨a'_0, a'_1⟩, ()⟩ => (let v0 : Int := ↑(List.length a'_0); bif v0 == 0 then (some ((0, (0, ({ data := #[] }, 0))), (false, ()))) else ((a'_0[0]?).bind fun ⟨y1_0, ⟨y1_1, ⟨y1_2, y1_3⟩⟩⟩ => (some ((y1_0, (y1_1, (y1_2, y1_3))), (true, ())))))
def N19 : A19 → Option B19 := M19
def C19 : Ctr τ := ⟨i19, o19, N19, 0⟩
theorem g19 : GOK κ Try.prog (G19) := gok_nil
theorem lall19 : ∀ Z : Zn, Z.rl = C19.o.keeps → Try.f19.ntmps ≤ Z.nt → ∀ p ∈ loops 0 (bodyOf Try.f19), ∀ C, (tabL []) p.1 = some C → LoopOK κ Try.prog Z p.2 C := fun Z h n => fun p hp => (by cases (show p ∈ ([] : List (Nat × Code)) from hp))
theorem e19 : ∀ x, M19 x = fnE Try.prog κ (G19) (tabL []) Try.f19 i19 o19 x := fun x => by kernel_rfl
theorem s19 : Sound κ Try.prog C19 19 := fn_sound (S := (tabL [])) (F := Try.f19) (code := bodyOf Try.f19) (by kernel_rfl) g19 Try.func19 (by kernel_rfl) (by kernel_rfl) (by kernel_rfl) lall19 (by kernel_rfl) (by kernel_rfl) fun x y h => (e19 x).symm.trans h
end Go.Proofs.Ytdcfpgkgaaobhaa.E
namespace Go.Proofs.Ytdcfpgkgaaobhaa.E
open Go
set_option linter.unusedVariables false
set_option maxRecDepth 100000
abbrev A4 : Type := ((List T42) × Unit)
abbrev B4 : Type := (Bool × Unit)
def i4 : Fr τ A4 := (.val 0 (.sl 42) .nil)
def o4 : Fr τ B4 := (.val 1000 .bool .nil)
def G4 (c7 : A7 → Option B7) (c8 : A8 → Option B8) (c9 : A9 → Option B9) (c14 : A14 → Option B14) (c13 : A13 → Option B13) (c15 : A15 → Option B15) (c16 : A16 → Option B16) (c17 : A17 → Option B17) (c18 : A18 → Option B18) (c19 : A19 → Option B19) (c11 : A11 → Option B11) (c10 : A10 → Option B10) (c20 : A20 → Option B20) : Nat → Option (Ctr τ) := tabG [(7, (⟨i7, o7, c7, 0⟩ : Ctr τ)), (8, (⟨i8, o8, c8, 0⟩ : Ctr τ)), (9, (⟨i9, o9, c9, 0⟩ : Ctr τ)), (14, (⟨i14, o14, c14, 0⟩ : Ctr τ)), (13, (⟨i13, o13, c13, 0⟩ : Ctr τ)), (15, (⟨i15, o15, c15, 0⟩ : Ctr τ)), (16, (⟨i16, o16, c16, 0⟩ : Ctr τ)), (17, (⟨i17, o17, c17, 0⟩ : Ctr τ)), (18, (⟨i18, o18, c18, 0⟩ : Ctr τ)), (19, (⟨i19, o19, c19, 0⟩ : Ctr τ)), (11, (⟨i11, o11, c11, 0⟩ : Ctr τ)), (10, (⟨i10, o10, c10, 0⟩ : Ctr τ)), (20, (⟨i20, o20, c20, 0⟩ : Ctr τ))]
abbrev LA4_0 : Type := ((List T42) × (List T30 × (Int × Unit)) × (List T30 × (Int × Unit)) × Int × Unit)
abbrev LB4_0 : Type := ((List T30 × (Int × Unit)) × (List T30 × (Int × Unit)) × Unit) ⊕ (Bool × Unit)
def li4_0 : Fr τ LA4_0 := (.val 0 (.sl 42) (.ptr 3 none 50 (.own 30 (.val (.int .i64) .nil)) (.ptr 4 none 40 (.own 30 (.val (.int .i64) .nil)) (.val 5 (.int .i64) .nil))))
def lo4_0 : Ot τ LB4_0 := .alt (.exit 0) (.ptr 3 none 50 (.own 30 (.val (.int .i64) .nil)) (.ptr 4 none 40 (.own 30 (.val (.int .i64) .nil)) .nil)) (.one .ret (.val 2 .bool .nil))
def Q4_0 (c7 : A7 → Option B7) (c8 : A8 → Option B8) (c9 : A9 → Option B9) (c14 : A14 → Option B14) (c13 : A13 → Option B13) (c15 : A15 → Option B15) (c16 : A16 → Option B16) (c17 : A17 → Option B17) (c18 : A18 → Option B18) (c19 : A19 → Option B19) (c11 : A11 → Option B11) (c10 : A10 → Option B10) (c20 : A20 → Option B20) : LA4_0 → Option (LA4_0 ⊕ LB4_0) := fun ⟨script', ⟨⟨a'_0, ⟨a'_1, ()⟩⟩, ⟨⟨r'_0, ⟨r'_1, ()⟩⟩, ⟨i', ()⟩⟩⟩⟩ => (let v0 : Int := ↑(List.length script'); bif decide (i' < v0) then (bif decide (i' < 600) then ((bif decide (0 ≤ i') then script'[Int.toNat i']? else none).bind fun ⟨y2_0, ⟨⟨y2_1, ⟨y2_2, ⟨y2_3, y2_4⟩⟩⟩, y2_5⟩⟩ => (bif y2_0 == 0 then ((c9 ((a'_0, (a'_1, ())), (y2_1, (y2_2, (y2_3, ()))))).bind fun ⟨y4_0, ⟨y4_1, ⟨⟨y4_2, ⟨y4_3, ()⟩⟩, ()⟩⟩⟩ => ((c14 ((r'_0, (r'_1, ())), (y2_1, (y2_2, (y2_3, ()))))).bind fun ⟨y5_0, ⟨y5_1, ⟨⟨y5_2, ⟨y5_3, ()⟩⟩, ()⟩⟩⟩ => (bif y4_0 != y5_0 then (some (.inr (.inr (false, ())))) else (bif y4_1 != y5_1 then (some (.inr (.inr (false, ())))) else ((c18 ((y4_2, (y4_3, ())), ())).bind fun ⟨⟨y8_0, ⟨y8_1, ⟨y8_2, y8_3⟩⟩⟩, ⟨y8_4, ⟨⟨y8_5, ⟨y8_6, ()⟩⟩, ()⟩⟩⟩ => ((c19 ((y5_2, y5_3), ())).bind fun ⟨⟨y9_0, ⟨y9_1, ⟨y9_2, y9_3⟩⟩⟩, ⟨y9_4, ()⟩⟩ => (bif !(y8_0 == y9_0 && (y8_1 == y9_1 && (ByteArray.toList y8_2 == ByteArray.toList y9_2 && y8_3 == y9_3))) then (some (.inr (.inr (false, ())))) else (bif !y8_4 == y9_4 then (some (.inr (.inr (false, ())))) else ((c11 ((y8_5, (y8_6, ())), ())).bind fun ⟨y12_0, ⟨⟨y12_1, ⟨y12_2, ()⟩⟩, ()⟩⟩ => (let v1 : Int := ↑(List.length y5_2); bif y12_0 != v1 then (some (.inr (.inr (false, ())))) else (let v2 : Int := Int.tmod i' 8; bif v2 == 0 then ((c10 ((y12_1, y12_2), ())).bind fun ⟨y15, ()⟩ => ((c20 (y15, (y5_2, ()))).bind fun ⟨y16, ()⟩ => (bif !y16 then (some (.inr (.inr (false, ())))) else (let v3 : Int := i' + 1; let v4 : Int := IntKind.wrap IntKind.i64 v3; some (.inl (script', ((y12_1, (y12_2, ())), ((y5_2, (y5_3, ())), (v4, ()))))))))) else (let v3 : Int := i' + 1; let v4 : Int := IntKind.wrap IntKind.i64 v3; some (.inl (script', ((y12_1, (y12_2, ())), ((y5_2, (y5_3, ())), (v4, ()))))))))))))))))) else (bif y2_0 == 1 then ((c13 ((a'_0, (a'_1, ())), (y2_1, ()))).bind fun ⟨⟨y5_0, ⟨y5_1, ⟨y5_2, y5_3⟩⟩⟩, ⟨y5_4, ⟨⟨y5_5, ⟨y5_6, ()⟩⟩, ()⟩⟩⟩ => ((c15 ((r'_0, (r'_1, ())), (y2_1, ()))).bind fun ⟨⟨y6_0, ⟨y6_1, ⟨y6_2, y6_3⟩⟩⟩, ⟨y6_4, ⟨⟨y6_5, ⟨y6_6, ()⟩⟩, ()⟩⟩⟩ => (bif !(y5_0 == y6_0 && (y5_1 == y6_1 && (ByteArray.toList y5_2 == ByteArray.toList y6_2 && y5_3 == y6_3))) then (some (.inr (.inr (false, ())))) else (bif !y5_4 == y6_4 then (some (.inr (.inr (false, ())))) else ((c18 ((y5_5, (y5_6, ())), ())).bind fun ⟨⟨y9_0, ⟨y9_1, ⟨y9_2, y9_3⟩⟩⟩, ⟨y9_4, ⟨⟨y9_5, ⟨y9_6, ()⟩⟩, ()⟩⟩⟩ => ((c19 ((y6_5, y6_6), ())).bind fun ⟨⟨y10_0, ⟨y10_1, ⟨y10_2, y10_3⟩⟩⟩, ⟨y10_4, ()⟩⟩ => (bif !(y9_0 == y10_0 && (y9_1 == y10_1 && (ByteArray.toList y9_2 == ByteArray.toList y10_2 && y9_3 == y10_3))) then (some (.inr (.inr (false, ())))) else (bif !y9_4 == y10_4 then (some (.inr (.inr (false, ())))) else ((c11 ((y9_5, (y9_6, ())), ())).bind fun ⟨y13_0, ⟨⟨y13_1, ⟨y13_2, ()⟩⟩, ()⟩⟩ => (let v1 : Int := ↑(List.length y6_5); bif y13_0 != v1 then (some (.inr (.inr (false, ())))) else (let v2 : Int := Int.tmod i' 8; bif v2 == 0 then ((c10 ((y13_1, y13_2), ())).bind fun ⟨y16, ()⟩ => ((c20 (y16, (y6_5, ()))).bind fun ⟨y17, ()⟩ => (bif !y17 then (some (.inr (.inr (false, ())))) else (let v3 : Int := i' + 1; let v4 : Int := IntKind.wrap IntKind.i64 v3; some (.inl (script', ((y13_1, (y13_2, ())), ((y6_5, (y6_6, ())), (v4, ()))))))))) else (let v3 : Int := i' + 1; let v4 : Int := IntKind.wrap IntKind.i64 v3; some (.inl (script', ((y13_1, (y13_2, ())), ((y6_5, (y6_6, ())), (v4, ()))))))))))))))))) else ((c16 ((a'_0, (a'_1, ())), (y2_5, ()))).bind fun ⟨y5_0, ⟨⟨y5_1, ⟨y5_2, ()⟩⟩, ()⟩⟩ => ((c17 ((r'_0, (r'_1, ())), (y2_5, ()))).bind fun ⟨y6_0, ⟨⟨y6_1, ⟨y6_2, ()⟩⟩, ()⟩⟩ => (bif !y5_0 == y6_0 then (some (.inr (.inr (false, ())))) else ((c18 ((y5_1, (y5_2, ())), ())).bind fun ⟨⟨y8_0, ⟨y8_1, ⟨y8_2, y8_3⟩⟩⟩, ⟨y8_4, ⟨⟨y8_5, ⟨y8_6, ()⟩⟩, ()⟩⟩⟩ => ((c19 ((y6_1, y6_2), ())).bind fun ⟨⟨y9_0, ⟨y9_1, ⟨y9_2, y9_3⟩⟩⟩, ⟨y9_4, ()⟩⟩ => (bif !(y8_0 == y9_0 && (y8_1 == y9_1 && (ByteArray.toList y8_2 == ByteArray.toList y9_2 && y8_3 == y9_3))) then (some (.inr (.inr (false, ())))) else (bif !y8_4 == y9_4 then (some (.inr (.inr (false, ())))) else ((c11 ((y8_5, (y8_6, ())), ())).bind fun ⟨y12_0, ⟨⟨y12_1, ⟨y12_2, ()⟩⟩, ()⟩⟩ => (let v1 : Int := ↑(List.length y6_1); bif y12_0 != v1 then (some (.inr (.inr (false, ())))) else (let v2 : Int := Int.tmod i' 8; bif v2 == 0 then ((c10 ((y12_1, y12_2), ())).bind fun ⟨y15, ()⟩ => ((c20 (y15, (y6_1, ()))).bind fun ⟨y16, ()⟩ => (bif !y16 then (some (.inr (.inr (false, ())))) else (let v3 : Int := i' + 1; let v4 : Int := IntKind.wrap IntKind.i64 v3; some (.inl (script', ((y12_1, (y12_2, ())), ((y6_1, (y6_2, ())), (v4, ()))))))))) else (let v3 : Int := i' + 1; let v4 : Int := IntKind.wrap IntKind.i64 v3; some (.inl (script', ((y12_1, (y12_2, ())), ((y6_1, (y6_2, ())), (v4, ()))))))))))))))))))) else (some (.inr (.inl ((a'_0, (a'_1, ())), ((r'_0, (r'_1, ())), ())))))) else (some (.inr (.inl ((a'_0, (a'_1, ())), ((r'_0, (r'_1, ())), ()))))))
def R4_0 : LA4_0 → Option (LA4_0 ⊕ LB4_0) := Q4_0 N7 N8 N9 N14 N13 N15 N16 N17 N18 N19 N11 N10 N20
def L4_0 : Lc τ := ⟨li4_0, itrs R4_0, lo4_0⟩
def M4 (c7 : A7 → Option B7) (c8 : A8 → Option B8) (c9 : A9 → Option B9) (c14 : A14 → Option B14) (c13 : A13 → Option B13) (c15 : A15 → Option B15) (c16 : A16 → Option B16) (c17 : A17 → Option B17) (c18 : A18 → Option B18) (c19 : A19 → Option B19) (c11 : A11 → Option B11) (c10 : A10 → Option B10) (c20 : A20 → Option B20) (l4_0 : LA4_0 → Option LB4_0) : A4 → Option B4 := fun ⟨script', ()⟩ => ((c7 ()).bind fun ⟨y0, ()⟩ => (bif !y0 then (some (false, ())) else ((c8 ()).bind fun ⟨⟨y2_0, ⟨y2_1, ()⟩⟩, ()⟩ => ((l4_0 (script', ((y2_0, (y2_1, ())), (([], (0, ())), (0, ()))))).bind fun y3 => (match y3 with | .inl ⟨⟨y4_0, ⟨y4_1, ()⟩⟩, ⟨⟨y4_2, ⟨y4_3, ()⟩⟩, ()⟩⟩ => ((c10 ((y4_0, y4_1), ())).bind fun ⟨y5, ()⟩ => ((c20 (y5, (y4_2, ()))).bind fun ⟨y6, ()⟩ => (some (y6, ())))) | .inr ⟨y4, ()⟩ => (some (y4, ())))))))
def N4 : A4 → Option B4 := M4 N7 N8 N9 N14 N13 N15 N16 N17 N18 N19 N11 N10 N20 (itrs R4_0)
def C4 : Ctr τ := ⟨i4, o4, N4, 0⟩
theorem g4 : GOK κ Try.prog (G4 N7 N8 N9 N14 N13 N15 N16 N17 N18 N19 N11 N10 N20) := (gok_cons s7 (keeps0 rfl) (gok_cons s8 (keeps0 rfl) (gok_cons s9 (keeps0 rfl) (gok_cons s14 (keeps0 rfl) (gok_cons s13 (keeps0 rfl) (gok_cons s15 (keeps0 rfl) (gok_cons s16 (keeps0 rfl) (gok_cons s17 (keeps0 rfl) (gok_cons s18 (keeps0 rfl) (gok_cons s19 (keeps0 rfl) (gok_cons s11 (keeps0 rfl) (gok_cons s10 (keeps0 rfl) (gok_cons s20 (keeps0 rfl) gok_nil)))))))))))))
theorem le4_0 : ∀ (c7 : A7 → Option B7) (c8 : A8 → Option B8) (c9 : A9 → Option B9) (c14 : A14 → Option B14) (c13 : A13 → Option B13) (c15 : A15 → Option B15) (c16 : A16 → Option B16) (c17 : A17 → Option B17) (c18 : A18 → Option B18) (c19 : A19 → Option B19) (c11 : A11 → Option B11) (c10 : A10 → Option B10) (c20 : A20 → Option B20) x, Q4_0 c7 c8 c9 c14 c13 c15 c16 c17 c18 c19 c11 c10 c20 x = run Try.prog κ (G4 c7 c8 c9 c14 c13 c15 c16 c17 c18 c19 c11 c10 c20) (tabL []) 0 (loopAt Try.f4 0) (li4_0.build x) (rnd li4_0 lo4_0) := fun c7 c8 c9 c14 c13 c15 c16 c17 c18 c19 c11 c10 c20 x => by kernel_rfl
theorem linner4_0 : ∀ Z : Zn, Z.rl = [] → 163 ≤ Z.nt → ∀ p ∈ loops 0 (loopAt Try.f4 0), ∀ C, (tabL []) p.1 = some C → LoopOK κ Try.prog Z p.2 C := fun Z h n => fun p hp => (by cases (show p ∈ ([] : List (Nat × Code)) from hp))
theorem lk4_0 : ∀ Z : Zn, Z.rl = [] → 163 ≤ Z.nt → LoopOK κ Try.prog Z (loopAt Try.f4 0) L4_0 := fun Z h n => loop_ok (S := (tabL [])) R4_0 (by kernel_rfl) g4 (by rw [h]; exact dsts_mono n _ (by kernel_rfl)) (linner4_0 Z h n) (by kernel_rfl) (by kernel_rfl) (le4_0 N7 N8 N9 N14 N13 N15 N16 N17 N18 N19 N11 N10 N20) itrs_rounds
theorem lall4 : ∀ Z : Zn, Z.rl = C4.o.keeps → Try.f4.ntmps ≤ Z.nt → ∀ p ∈ loops 0 (bodyOf Try.f4), ∀ C, (tabL [(0, L4_0)]) p.1 = some C → LoopOK κ Try.prog Z p.2 C := fun Z h n => all_loops [(0, loopAt Try.f4 0)] (by kernel_rfl) (all_cons (fun C hC => (Option.some.inj hC : L4_0 = C) ▸ lk4_0 Z h n) (fun _ h => by cases h))
theorem e4 : ∀ (c7 : A7 → Option B7) (c8 : A8 → Option B8) (c9 : A9 → Option B9) (c14 : A14 → Option B14) (c13 : A13 → Option B13) (c15 : A15 → Option B15) (c16 : A16 → Option B16) (c17 : A17 → Option B17) (c18 : A18 → Option B18) (c19 : A19 → Option B19) (c11 : A11 → Option B11) (c10 : A10 → Option B10) (c20 : A20 → Option B20) (l4_0 : LA4_0 → Option LB4_0) x, M4 c7 c8 c9 c14 c13 c15 c16 c17 c18 c19 c11 c10 c20 l4_0 x = fnE Try.prog κ (G4 c7 c8 c9 c14 c13 c15 c16 c17 c18 c19 c11 c10 c20) (tabL [(0, (⟨li4_0, l4_0, lo4_0⟩ : Lc τ))]) Try.f4 i4 o4 x := fun c7 c8 c9 c14 c13 c15 c16 c17 c18 c19 c11 c10 c20 l4_0 x => by kernel_rfl
theorem s4 : Sound κ Try.prog C4 4 := fn_sound (S := (tabL [(0, L4_0)])) (F := Try.f4) (code := bodyOf Try.f4) (by kernel_rfl) g4 Try.func4 (by kernel_rfl) (by kernel_rfl) (by kernel_rfl) lall4 (by kernel_rfl) (by kernel_rfl) fun x y h => (e4 N7 N8 N9 N14 N13 N15 N16 N17 N18 N19 N11 N10 N20 (itrs R4_0) x).symm.trans h
end Go.Proofs.Ytdcfpgkgaaobhaa.E
