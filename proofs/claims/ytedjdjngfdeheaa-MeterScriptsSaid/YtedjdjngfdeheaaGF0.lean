/- What each function comes to, told as a Lean function, and that the machine does so. No condition. -/
import Derived.Test.YtedjdjngfdeheaaGE2
import Derived.Test.YtedjdjngfdeheaaProg
import Derived.Laws.Strings
import Derived.WalkKit
import Derived.Deep.LoopGhost
import Derived.Lib.Walk
import Derived.Lib.SliceRun
namespace Go.Proofs.Ytedjdjngfdeheaa.E
open Go
set_option linter.unusedVariables false
abbrev T29 : Type := (ByteArray × (Int × (Int × Int)))
abbrev T46 : Type := (List T29)
abbrev T9 : Type := ByteArray
abbrev T2 : Type := Int
abbrev T3 : Type := Int
abbrev T41 : Type := (List T29)
abbrev T43 : Type := (Int × ((ByteArray × (Int × (Int × Int))) × (Int × Int)))
abbrev T1000020 : Type := (T9 × T2)
def τ : Nat → Type := fun e => bif Nat.beq e 29 then T29 else bif Nat.beq e 46 then T46 else bif Nat.beq e 9 then T9 else bif Nat.beq e 2 then T2 else bif Nat.beq e 3 then T3 else bif Nat.beq e 41 then T41 else bif Nat.beq e 43 then T43 else bif Nat.beq e 1000020 then T1000020 else Unit
theorem τ_else {e : Nat} (h29 : ¬ e = 29) (h46 : ¬ e = 46) (h9 : ¬ e = 9) (h2 : ¬ e = 2) (h3 : ¬ e = 3) (h41 : ¬ e = 41) (h43 : ¬ e = 43) (h1000020 : ¬ e = 1000020) : τ e = Unit := by simp [τ, beq_false h29, beq_false h46, beq_false h9, beq_false h2, beq_false h3, beq_false h41, beq_false h43, beq_false h1000020]
def κ : (e : Nat) → K τ (τ e) := fun e => if h29 : e = 29 then h29 ▸ (show K τ (τ 29) from ((.pair .str (.pair (.int .i64) (.pair (.int .i64) (.int .i64)))) : K τ T29)) else if h46 : e = 46 then h46 ▸ (show K τ (τ 46) from ((.iso (fun x => x) (fun x => x) (fun _ => rfl) (.sl 29)) : K τ T46)) else if h9 : e = 9 then h9 ▸ (show K τ (τ 9) from (.str : K τ T9)) else if h2 : e = 2 then h2 ▸ (show K τ (τ 2) from ((.int .i64) : K τ T2)) else if h3 : e = 3 then h3 ▸ (show K τ (τ 3) from ((.int .i64) : K τ T3)) else if h41 : e = 41 then h41 ▸ (show K τ (τ 41) from ((.iso (fun x => x) (fun x => x) (fun _ => rfl) (.sl 29)) : K τ T41)) else if h43 : e = 43 then h43 ▸ (show K τ (τ 43) from ((.pair (.int .i64) (.pair (.pair .str (.pair (.int .i64) (.pair (.int .i64) (.int .i64)))) (.pair (.int .i64) (.int .i64)))) : K τ T43)) else if h1000020 : e = 1000020 then h1000020 ▸ (show K τ (τ 1000020) from ((.pair (.ref 9) (.ref 2)) : K τ T1000020)) else cast (congrArg (K τ) (τ_else h29 h46 h9 h2 h3 h41 h43 h1000020).symm) K.unit
end Go.Proofs.Ytedjdjngfdeheaa.E
namespace Go.Proofs.Ytedjdjngfdeheaa.E
open Go
set_option linter.unusedVariables false
set_option maxRecDepth 100000
abbrev A21 : Type := ((List T29) × Unit)
abbrev B21 : Type := ((List T29) × Unit)
def i21 : Fr τ A21 := (.val 0 (.sl 29) .nil)
def o21 : Fr τ B21 := (.own 1000 29 .nil)
def G21 : Nat → Option (Ctr τ) := tabG []
def M21 : A21 → Option B21 := fun ⟨s', ()⟩ => ((bif !List.isEmpty s' then some () else none).bind fun () => ((bif decide ((0 + List.length s') * 40 ≤ 210000000000000) then some () else none).bind fun () => (some ([] ++ s', ()))))
def N21 : A21 → Option B21 := M21
def C21 : Ctr τ := ⟨i21, o21, N21, 0⟩
theorem g21 : GOK κ Try.prog (G21) := gok_nil
theorem lall21 : ∀ Z : Zn, Z.rl = C21.o.keeps → Try.f21.ntmps ≤ Z.nt → ∀ p ∈ loops 0 (bodyOf Try.f21), ∀ C, (tabL []) p.1 = some C → LoopOK κ Try.prog Z p.2 C := fun Z h n => fun p hp => (by cases (show p ∈ ([] : List (Nat × Code)) from hp))
theorem e21 : ∀ x, M21 x = fnE Try.prog κ (G21) (tabL []) Try.f21 i21 o21 x := fun x => by kernel_rfl
theorem s21 : Sound κ Try.prog C21 21 := fn_sound (S := (tabL [])) (F := Try.f21) (code := bodyOf Try.f21) (by kernel_rfl) g21 Try.func21 (by kernel_rfl) (by kernel_rfl) (by kernel_rfl) lall21 (by kernel_rfl) (by kernel_rfl) fun x y h => (e21 x).symm.trans h
end Go.Proofs.Ytedjdjngfdeheaa.E
namespace Go.Proofs.Ytedjdjngfdeheaa.E
open Go
set_option linter.unusedVariables false
set_option maxRecDepth 100000
abbrev A8 : Type := (Unit)
abbrev B8 : Type := ((List T29 × Unit) × Unit)
def i8 : Fr τ A8 := .nil
def o8 : Fr τ B8 := (.ptr 1000 none 46 (.own 29 .nil) .nil)
def G8 : Nat → Option (Ctr τ) := tabG []
def M8 : A8 → Option B8 := fun () => (some (([], ()), ()))
def N8 : A8 → Option B8 := M8
def C8 : Ctr τ := ⟨i8, o8, N8, 0⟩
theorem g8 : GOK κ Try.prog (G8) := gok_nil
theorem lall8 : ∀ Z : Zn, Z.rl = C8.o.keeps → Try.f8.ntmps ≤ Z.nt → ∀ p ∈ loops 0 (bodyOf Try.f8), ∀ C, (tabL []) p.1 = some C → LoopOK κ Try.prog Z p.2 C := fun Z h n => fun p hp => (by cases (show p ∈ ([] : List (Nat × Code)) from hp))
theorem e8 : ∀ x, M8 x = fnE Try.prog κ (G8) (tabL []) Try.f8 i8 o8 x := fun x => by kernel_rfl
theorem s8 : Sound κ Try.prog C8 8 := fn_sound (S := (tabL [])) (F := Try.f8) (code := bodyOf Try.f8) (by kernel_rfl) g8 Try.func8 (by kernel_rfl) (by kernel_rfl) (by kernel_rfl) lall8 (by kernel_rfl) (by kernel_rfl) fun x y h => (e8 x).symm.trans h
end Go.Proofs.Ytedjdjngfdeheaa.E
namespace Go.Proofs.Ytedjdjngfdeheaa.E
open Go
set_option linter.unusedVariables false
set_option maxRecDepth 100000
abbrev A9 : Type := ((List T29 × Unit) × (ByteArray × (Int × (Int × Int))) × Unit)
abbrev B9 : Type := (Int × (List T29 × Unit) × Unit)
def i9 : Fr τ A9 := (.ptr 0 none 46 (.own 29 .nil) (.val 1 (.pair .str (.pair (.int .i64) (.pair (.int .i64) (.int .i64)))) .nil))
def o9 : Fr τ B9 := (.val 1000 (.int .i64) (.ptr 0 none 46 (.own 29 .nil) .nil))
def G9 : Nat → Option (Ctr τ) := tabG []
def M9 : A9 → Option B9 := fun ⟨⟨m', ()⟩, ⟨⟨r'_0, ⟨r'_1, ⟨r'_2, r'_3⟩⟩⟩, ()⟩⟩ => (let v0 : Int := ↑(ByteArray.size r'_0); bif decide (v0 < 1) then (some (1, ((m', ()), ()))) else (bif decide (v0 > 32) then (some (1, ((m', ()), ()))) else (bif decide (r'_1 < 0) then (some (1, ((m', ()), ()))) else (bif decide (r'_1 ≥ 4) then (some (1, ((m', ()), ()))) else (bif decide (r'_2 < 0) then (some (221, ((m', ()), ()))) else (bif decide (r'_2 > 1000000) then (some (221, ((m', ()), ()))) else (bif decide (r'_3 < 0) then (some (101, ((m', ()), ()))) else (bif decide (r'_3 > 1099511627776) then (some (101, ((m', ()), ()))) else (let v1 : Int := ↑(List.length m'); bif decide (v1 ≥ 4096) then (some (3, ((m', ()), ()))) else ((bif decide ((List.length m' + 1) * 40 ≤ 210000000000000) then some () else none).bind fun () => (some (0, ((m' ++ [(r'_0, r'_1, r'_2, r'_3)], ()), ())))))))))))))
def N9 : A9 → Option B9 := M9
def C9 : Ctr τ := ⟨i9, o9, N9, 0⟩
theorem g9 : GOK κ Try.prog (G9) := gok_nil
theorem lall9 : ∀ Z : Zn, Z.rl = C9.o.keeps → Try.f9.ntmps ≤ Z.nt → ∀ p ∈ loops 0 (bodyOf Try.f9), ∀ C, (tabL []) p.1 = some C → LoopOK κ Try.prog Z p.2 C := fun Z h n => fun p hp => (by cases (show p ∈ ([] : List (Nat × Code)) from hp))
theorem e9 : ∀ x, M9 x = fnE Try.prog κ (G9) (tabL []) Try.f9 i9 o9 x := fun x => by kernel_rfl
theorem s9 : Sound κ Try.prog C9 9 := fn_sound (S := (tabL [])) (F := Try.f9) (code := bodyOf Try.f9) (by kernel_rfl) g9 Try.func9 (by kernel_rfl) (by kernel_rfl) (by kernel_rfl) lall9 (by kernel_rfl) (by kernel_rfl) fun x y h => (e9 x).symm.trans h
end Go.Proofs.Ytedjdjngfdeheaa.E
namespace Go.Proofs.Ytedjdjngfdeheaa.E
open Go
set_option linter.unusedVariables false
set_option maxRecDepth 100000
abbrev A18 : Type := (T46 × Unit)
abbrev B18 : Type := ((List T29) × Unit)
def i18 : Fr τ A18 := (.val 0 (.ref 46) .nil)
def o18 : Fr τ B18 := (.val 1000 (.sl 29) .nil)
def G18 : Nat → Option (Ctr τ) := tabG []
def M18 : A18 → Option B18 := fun ⟨m', ()⟩ => (some (m', ()))
def N18 : A18 → Option B18 := M18
def C18 : Ctr τ := ⟨i18, o18, N18, 0⟩
theorem g18 : GOK κ Try.prog (G18) := gok_nil
theorem lall18 : ∀ Z : Zn, Z.rl = C18.o.keeps → Try.f18.ntmps ≤ Z.nt → ∀ p ∈ loops 0 (bodyOf Try.f18), ∀ C, (tabL []) p.1 = some C → LoopOK κ Try.prog Z p.2 C := fun Z h n => fun p hp => (by cases (show p ∈ ([] : List (Nat × Code)) from hp))
theorem e18 : ∀ x, M18 x = fnE Try.prog κ (G18) (tabL []) Try.f18 i18 o18 x := fun x => by kernel_rfl
theorem s18 : Sound κ Try.prog C18 18 := fn_sound (S := (tabL [])) (F := Try.f18) (code := bodyOf Try.f18) (by kernel_rfl) g18 Try.func18 (by kernel_rfl) (by kernel_rfl) (by kernel_rfl) lall18 (by kernel_rfl) (by kernel_rfl) fun x y h => (e18 x).symm.trans h
end Go.Proofs.Ytedjdjngfdeheaa.E
namespace Go.Proofs.Ytedjdjngfdeheaa.E
open Go
set_option linter.unusedVariables false
set_option maxRecDepth 100000
abbrev A11 : Type := (T46 × ByteArray × Int × Int × Int × Unit)
abbrev B11 : Type := (Int × Unit)
def i11 : Fr τ A11 := (.val 0 (.ref 46) (.val 1 .str (.val 2 (.int .i64) (.val 3 (.int .i64) (.val 4 (.int .i64) .nil)))))
def o11 : Fr τ B11 := (.val 1000 (.int .i64) .nil)
def G11 (c18 : A18 → Option B18) : Nat → Option (Ctr τ) := tabG [(18, (⟨i18, o18, c18, 0⟩ : Ctr τ))]
abbrev LA11_0 : Type := (ByteArray × Int × Int × Int × Int × (List T29) × Int × Int × Unit)
abbrev LB11_0 : Type := (Int × Unit)
def li11_0 : Fr τ LA11_0 := (.val 1 .str (.val 2 (.int .i64) (.val 3 (.int .i64) (.val 4 (.int .i64) (.val 11 (.int .i64) (.val 15 (.sl 29) (.val 16 (.int .i64) (.val 17 (.int .i64) .nil))))))))
def lo11_0 : Ot τ LB11_0 := .one (.exit 0) (.val 11 (.int .i64) .nil)
def Q11_0 (c18 : A18 → Option B18) : LA11_0 → Option (LA11_0 ⊕ LB11_0) := fun ⟨key', ⟨dim', ⟨from', ⟨to', ⟨sum', ⟨t15', ⟨t16', ⟨t17', ()⟩⟩⟩⟩⟩⟩⟩⟩ => (bif decide (t17' < t16') then ((bif decide (0 ≤ t17') then t15'[Int.toNat t17']? else none).bind fun ⟨y1_0, ⟨y1_1, ⟨y1_2, y1_3⟩⟩⟩ => (bif ByteArray.toList y1_0 == ByteArray.toList key' then (bif y1_1 == dim' then (bif decide (y1_2 ≥ from') then (bif decide (y1_2 < to') then (let v0 : Int := sum' + y1_3; let v1 : Int := IntKind.wrap IntKind.i64 v0; let v2 : Int := t17' + 1; let v3 : Int := IntKind.wrap IntKind.i64 v2; some (.inl (key', (dim', (from', (to', (v1, (t15', (t16', (v3, ())))))))))) else (let v0 : Int := t17' + 1; let v1 : Int := IntKind.wrap IntKind.i64 v0; some (.inl (key', (dim', (from', (to', (sum', (t15', (t16', (v1, ()))))))))))) else (let v0 : Int := t17' + 1; let v1 : Int := IntKind.wrap IntKind.i64 v0; some (.inl (key', (dim', (from', (to', (sum', (t15', (t16', (v1, ()))))))))))) else (let v0 : Int := t17' + 1; let v1 : Int := IntKind.wrap IntKind.i64 v0; some (.inl (key', (dim', (from', (to', (sum', (t15', (t16', (v1, ()))))))))))) else (let v0 : Int := t17' + 1; let v1 : Int := IntKind.wrap IntKind.i64 v0; some (.inl (key', (dim', (from', (to', (sum', (t15', (t16', (v1, ())))))))))))) else (some (.inr (sum', ()))))
def R11_0 : LA11_0 → Option (LA11_0 ⊕ LB11_0) := Q11_0 N18
def L11_0 : Lc τ := ⟨li11_0, itrs R11_0, lo11_0⟩
def M11 (c18 : A18 → Option B18) (l11_0 : LA11_0 → Option LB11_0) : A11 → Option B11 := fun ⟨m', ⟨key', ⟨dim', ⟨from', ⟨to', ()⟩⟩⟩⟩⟩ => ((c18 (m', ())).bind fun ⟨y0, ()⟩ => (let v0 : Int := ↑(List.length y0); (l11_0 (key', (dim', (from', (to', (0, (y0, (v0, (0, ()))))))))).bind fun ⟨y1, ()⟩ => (some (y1, ()))))
def N11 : A11 → Option B11 := M11 N18 (itrs R11_0)
def C11 : Ctr τ := ⟨i11, o11, N11, 0⟩
theorem g11 : GOK κ Try.prog (G11 N18) := (gok_cons s18 (keeps0 rfl) gok_nil)
theorem le11_0 : ∀ (c18 : A18 → Option B18) x, Q11_0 c18 x = run Try.prog κ (G11 c18) (tabL []) 0 (loopAt Try.f11 0) (li11_0.build x) (rnd li11_0 lo11_0) := fun c18 x => by kernel_rfl
theorem linner11_0 : ∀ Z : Zn, Z.rl = [] → 49 ≤ Z.nt → ∀ p ∈ loops 0 (loopAt Try.f11 0), ∀ C, (tabL []) p.1 = some C → LoopOK κ Try.prog Z p.2 C := fun Z h n => fun p hp => (by cases (show p ∈ ([] : List (Nat × Code)) from hp))
theorem lk11_0 : ∀ Z : Zn, Z.rl = [] → 49 ≤ Z.nt → LoopOK κ Try.prog Z (loopAt Try.f11 0) L11_0 := fun Z h n => loop_ok (S := (tabL [])) R11_0 (by kernel_rfl) g11 (by rw [h]; exact dsts_mono n _ (by kernel_rfl)) (linner11_0 Z h n) (by kernel_rfl) (by kernel_rfl) (le11_0 N18) itrs_rounds
theorem lall11 : ∀ Z : Zn, Z.rl = C11.o.keeps → Try.f11.ntmps ≤ Z.nt → ∀ p ∈ loops 0 (bodyOf Try.f11), ∀ C, (tabL [(0, L11_0)]) p.1 = some C → LoopOK κ Try.prog Z p.2 C := fun Z h n => all_loops [(0, loopAt Try.f11 0)] (by kernel_rfl) (all_cons (fun C hC => (Option.some.inj hC : L11_0 = C) ▸ lk11_0 Z h n) (fun _ h => by cases h))
theorem e11 : ∀ (c18 : A18 → Option B18) (l11_0 : LA11_0 → Option LB11_0) x, M11 c18 l11_0 x = fnE Try.prog κ (G11 c18) (tabL [(0, (⟨li11_0, l11_0, lo11_0⟩ : Lc τ))]) Try.f11 i11 o11 x := fun c18 l11_0 x => by kernel_rfl
theorem s11 : Sound κ Try.prog C11 11 := fn_sound (S := (tabL [(0, L11_0)])) (F := Try.f11) (code := bodyOf Try.f11) (by kernel_rfl) g11 Try.func11 (by kernel_rfl) (by kernel_rfl) (by kernel_rfl) lall11 (by kernel_rfl) (by kernel_rfl) fun x y h => (e11 N18 (itrs R11_0) x).symm.trans h
end Go.Proofs.Ytedjdjngfdeheaa.E
namespace Go.Proofs.Ytedjdjngfdeheaa.E
open Go
set_option linter.unusedVariables false
set_option maxRecDepth 100000
abbrev A10 : Type := (T46 × Unit)
abbrev B10 : Type := (Int × Unit)
def i10 : Fr τ A10 := (.val 0 (.ref 46) .nil)
def o10 : Fr τ B10 := (.val 1000 (.int .i64) .nil)
def G10 (c18 : A18 → Option B18) : Nat → Option (Ctr τ) := tabG [(18, (⟨i18, o18, c18, 0⟩ : Ctr τ))]
def M10 (c18 : A18 → Option B18) : A10 → Option B10 := fun ⟨m', ()⟩ => ((c18 (m', ())).bind fun ⟨y0, ()⟩ => (let v0 : Int := ↑(List.length y0); some (v0, ())))
def N10 : A10 → Option B10 := M10 N18
def C10 : Ctr τ := ⟨i10, o10, N10, 0⟩
theorem g10 : GOK κ Try.prog (G10 N18) := (gok_cons s18 (keeps0 rfl) gok_nil)
theorem lall10 : ∀ Z : Zn, Z.rl = C10.o.keeps → Try.f10.ntmps ≤ Z.nt → ∀ p ∈ loops 0 (bodyOf Try.f10), ∀ C, (tabL []) p.1 = some C → LoopOK κ Try.prog Z p.2 C := fun Z h n => fun p hp => (by cases (show p ∈ ([] : List (Nat × Code)) from hp))
theorem e10 : ∀ (c18 : A18 → Option B18) x, M10 c18 x = fnE Try.prog κ (G10 c18) (tabL []) Try.f10 i10 o10 x := fun c18 x => by kernel_rfl
theorem s10 : Sound κ Try.prog C10 10 := fn_sound (S := (tabL [])) (F := Try.f10) (code := bodyOf Try.f10) (by kernel_rfl) g10 Try.func10 (by kernel_rfl) (by kernel_rfl) (by kernel_rfl) lall10 (by kernel_rfl) (by kernel_rfl) fun x y h => (e10 N18 x).symm.trans h
end Go.Proofs.Ytedjdjngfdeheaa.E
namespace Go.Proofs.Ytedjdjngfdeheaa.E
open Go
set_option linter.unusedVariables false
set_option maxRecDepth 100000
abbrev A7 : Type := (Unit)
abbrev B7 : Type := (Bool × Unit)
def i7 : Fr τ A7 := .nil
def o7 : Fr τ B7 := (.val 1000 .bool .nil)
def G7 (c8 : A8 → Option B8) (c9 : A9 → Option B9) (c11 : A11 → Option B11) (c10 : A10 → Option B10) : Nat → Option (Ctr τ) := tabG [(8, (⟨i8, o8, c8, 0⟩ : Ctr τ)), (9, (⟨i9, o9, c9, 0⟩ : Ctr τ)), (11, (⟨i11, o11, c11, 0⟩ : Ctr τ)), (10, (⟨i10, o10, c10, 0⟩ : Ctr τ))]
def M7 (c8 : A8 → Option B8) (c9 : A9 → Option B9) (c11 : A11 → Option B11) (c10 : A10 → Option B10) : A7 → Option B7 := fun () => ((c8 ()).bind fun ⟨⟨y0, ()⟩, ()⟩ => ((c9 ((y0, ()), (({ data := #[97] }, (0, (5, 10))), ()))).bind fun ⟨y1_0, ⟨⟨y1_1, ()⟩, ()⟩⟩ => ((c9 ((y1_1, ()), (({ data := #[97] }, (0, (3, 4))), ()))).bind fun ⟨y2_0, ⟨⟨y2_1, ()⟩, ()⟩⟩ => ((c9 ((y2_1, ()), (({ data := #[] }, (0, (3, 0))), ()))).bind fun ⟨y3_0, ⟨⟨y3_1, ()⟩, ()⟩⟩ => (bif y1_0 == 0 then (bif y2_0 == 0 then (bif y3_0 == 1 then ((c11 (y3_1, ({ data := #[97] }, (0, (0, (6, ())))))).bind fun ⟨y7, ()⟩ => (bif y7 == 14 then ((c11 (y3_1, ({ data := #[97] }, (0, (3, (5, ())))))).bind fun ⟨y9, ()⟩ => (bif y9 == 4 then ((c10 (y3_1, ())).bind fun ⟨y11, ()⟩ => (some (y11 == 2, ()))) else (some (false, ())))) else (some (false, ())))) else (some (false, ()))) else (some (false, ()))) else (some (false, ())))))))
def N7 : A7 → Option B7 := M7 N8 N9 N11 N10
def C7 : Ctr τ := ⟨i7, o7, N7, 0⟩
theorem g7 : GOK κ Try.prog (G7 N8 N9 N11 N10) := (gok_cons s8 (keeps0 rfl) (gok_cons s9 (keeps0 rfl) (gok_cons s11 (keeps0 rfl) (gok_cons s10 (keeps0 rfl) gok_nil))))
theorem lall7 : ∀ Z : Zn, Z.rl = C7.o.keeps → Try.f7.ntmps ≤ Z.nt → ∀ p ∈ loops 0 (bodyOf Try.f7), ∀ C, (tabL []) p.1 = some C → LoopOK κ Try.prog Z p.2 C := fun Z h n => fun p hp => (by cases (show p ∈ ([] : List (Nat × Code)) from hp))
theorem e7 : ∀ (c8 : A8 → Option B8) (c9 : A9 → Option B9) (c11 : A11 → Option B11) (c10 : A10 → Option B10) x, M7 c8 c9 c11 c10 x = fnE Try.prog κ (G7 c8 c9 c11 c10) (tabL []) Try.f7 i7 o7 x := fun c8 c9 c11 c10 x => by kernel_rfl
theorem s7 : Sound κ Try.prog C7 7 := fn_sound (S := (tabL [])) (F := Try.f7) (code := bodyOf Try.f7) (by kernel_rfl) g7 Try.func7 (by kernel_rfl) (by kernel_rfl) (by kernel_rfl) lall7 (by kernel_rfl) (by kernel_rfl) fun x y h => (e7 N8 N9 N11 N10 x).symm.trans h
end Go.Proofs.Ytedjdjngfdeheaa.E
namespace Go.Proofs.Ytedjdjngfdeheaa.E
open Go
set_option linter.unusedVariables false
set_option maxRecDepth 100000
abbrev A20 : Type := ((ByteArray × (Int × (Int × Int))) × T9 × T2 × Unit)
abbrev B20 : Type := (Bool × Unit)
def i20 : Fr τ A20 := (.val 0 (.pair .str (.pair (.int .i64) (.pair (.int .i64) (.int .i64)))) (.val 1 (.ref 9) (.val 2 (.ref 2) .nil)))
def o20 : Fr τ B20 := (.val 1000 .bool .nil)
def G20 : Nat → Option (Ctr τ) := tabG []
def M20 : A20 → Option B20 := fun ⟨⟨r'_0, ⟨r'_1, ⟨r'_2, r'_3⟩⟩⟩, ⟨t1', ⟨t2', ()⟩⟩⟩ => (bif ByteArray.toList r'_0 == ByteArray.toList t1' then (some (decide (r'_2 < t2'), ())) else (some (false, ())))
def N20 : A20 → Option B20 := M20
def C20 : Ctr τ := ⟨i20, o20, N20, 0⟩
theorem g20 : GOK κ Try.prog (G20) := gok_nil
theorem lall20 : ∀ Z : Zn, Z.rl = C20.o.keeps → Try.f20.ntmps ≤ Z.nt → ∀ p ∈ loops 0 (bodyOf Try.f20), ∀ C, (tabL []) p.1 = some C → LoopOK κ Try.prog Z p.2 C := fun Z h n => fun p hp => (by cases (show p ∈ ([] : List (Nat × Code)) from hp))
theorem e20 : ∀ x, M20 x = fnE Try.prog κ (G20) (tabL []) Try.f20 i20 o20 x := fun x => by kernel_rfl
theorem s20 : Sound κ Try.prog C20 20 := fn_sound (S := (tabL [])) (F := Try.f20) (code := bodyOf Try.f20) (by kernel_rfl) g20 Try.func20 (by kernel_rfl) (by kernel_rfl) (by kernel_rfl) lall20 (by kernel_rfl) (by kernel_rfl) fun x y h => (e20 x).symm.trans h
end Go.Proofs.Ytedjdjngfdeheaa.E
namespace Go.Proofs.Ytedjdjngfdeheaa.E
open Go
set_option linter.unusedVariables false
set_option maxRecDepth 100000
abbrev A30 : Type := ((List T29) × T1000020 × Unit)
abbrev B30 : Type := (Int × Unit)
def i30 : Fr τ A30 := (.val 0 (.sl 29) (.val 1 (.clo 20 1000020) .nil))
def o30 : Fr τ B30 := (.val 1000 (.int .i64) .nil)
def G30 (c20 : A20 → Option B20) : Nat → Option (Ctr τ) := tabG [(20, (⟨i20, o20, c20, 0⟩ : Ctr τ))]
abbrev LA30_0 : Type := ((List T29) × T1000020 × Int × Int × Unit)
abbrev LB30_0 : Type := (Unit) ⊕ (Int × Unit)
def li30_0 : Fr τ LA30_0 := (.val 0 (.sl 29) (.val 1 (.clo 20 1000020) (.val 7 (.int .i64) (.val 8 (.int .i64) .nil))))
def lo30_0 : Ot τ LB30_0 := .alt (.exit 0) .nil (.one .ret (.val 4 (.int .i64) .nil))
def Q30_0 (c20 : A20 → Option B20) : LA30_0 → Option (LA30_0 ⊕ LB30_0) := fun ⟨s', ⟨⟨f'_0, f'_1⟩, ⟨t7', ⟨t8', ()⟩⟩⟩⟩ => (bif decide (t8' < t7') then ((bif decide (0 ≤ t8') then s'[Int.toNat t8']? else none).bind fun ⟨y1_0, ⟨y1_1, ⟨y1_2, y1_3⟩⟩⟩ => ((c20 ((y1_0, (y1_1, (y1_2, y1_3))), (f'_0, (f'_1, ())))).bind fun ⟨y2, ()⟩ => (bif y2 then (some (.inr (.inr (t8', ())))) else (let v0 : Int := t8' + 1; let v1 : Int := IntKind.wrap IntKind.i64 v0; some (.inl (s', ((f'_0, f'_1), (t7', (v1, ()))))))))) else (some (.inr (.inl ()))))
def R30_0 : LA30_0 → Option (LA30_0 ⊕ LB30_0) := Q30_0 N20
def L30_0 : Lc τ := ⟨li30_0, itrs R30_0, lo30_0⟩
def M30 (c20 : A20 → Option B20) (l30_0 : LA30_0 → Option LB30_0) : A30 → Option B30 := fun ⟨s', ⟨⟨f'_0, f'_1⟩, ()⟩⟩ => (let v0 : Int := ↑(List.length s'); (l30_0 (s', ((f'_0, f'_1), (v0, (0, ()))))).bind fun y0 => (match y0 with | .inl () => (some (-1, ())) | .inr ⟨y1, ()⟩ => (some (y1, ()))))
def N30 : A30 → Option B30 := M30 N20 (itrs R30_0)
def C30 : Ctr τ := ⟨i30, o30, N30, 0⟩
theorem g30 : GOK κ Try.prog (G30 N20) := (gok_cons s20 (keeps0 rfl) gok_nil)
theorem le30_0 : ∀ (c20 : A20 → Option B20) x, Q30_0 c20 x = run Try.prog κ (G30 c20) (tabL []) 0 (loopAt Try.f30 0) (li30_0.build x) (rnd li30_0 lo30_0) := fun c20 x => by kernel_rfl
theorem linner30_0 : ∀ Z : Zn, Z.rl = [] → 19 ≤ Z.nt → ∀ p ∈ loops 0 (loopAt Try.f30 0), ∀ C, (tabL []) p.1 = some C → LoopOK κ Try.prog Z p.2 C := fun Z h n => fun p hp => (by cases (show p ∈ ([] : List (Nat × Code)) from hp))
theorem lk30_0 : ∀ Z : Zn, Z.rl = [] → 19 ≤ Z.nt → LoopOK κ Try.prog Z (loopAt Try.f30 0) L30_0 := fun Z h n => loop_ok (S := (tabL [])) R30_0 (by kernel_rfl) g30 (by rw [h]; exact dsts_mono n _ (by kernel_rfl)) (linner30_0 Z h n) (by kernel_rfl) (by kernel_rfl) (le30_0 N20) itrs_rounds
theorem lall30 : ∀ Z : Zn, Z.rl = C30.o.keeps → Try.f30.ntmps ≤ Z.nt → ∀ p ∈ loops 0 (bodyOf Try.f30), ∀ C, (tabL [(0, L30_0)]) p.1 = some C → LoopOK κ Try.prog Z p.2 C := fun Z h n => all_loops [(0, loopAt Try.f30 0)] (by kernel_rfl) (all_cons (fun C hC => (Option.some.inj hC : L30_0 = C) ▸ lk30_0 Z h n) (fun _ h => by cases h))
theorem e30 : ∀ (c20 : A20 → Option B20) (l30_0 : LA30_0 → Option LB30_0) x, M30 c20 l30_0 x = fnE Try.prog κ (G30 c20) (tabL [(0, (⟨li30_0, l30_0, lo30_0⟩ : Lc τ))]) Try.f30 i30 o30 x := fun c20 l30_0 x => by kernel_rfl
theorem s30 : Sound κ Try.prog C30 30 := fn_sound (S := (tabL [(0, L30_0)])) (F := Try.f30) (code := bodyOf Try.f30) (by kernel_rfl) g30 Try.func30 (by kernel_rfl) (by kernel_rfl) (by kernel_rfl) lall30 (by kernel_rfl) (by kernel_rfl) fun x y h => (e30 N20 (itrs R30_0) x).symm.trans h
end Go.Proofs.Ytedjdjngfdeheaa.E
namespace Go.Proofs.Ytedjdjngfdeheaa.E
open Go
set_option linter.unusedVariables false
set_option maxRecDepth 100000
abbrev A19 : Type := ((List T29) × T1000020 × Unit)
abbrev B19 : Type := ((List T29) × Unit)
def i19 : Fr τ A19 := (.own 0 29 (.val 1 (.clo 20 1000020) .nil))
def o19 : Fr τ B19 := (.own 1000 29 .nil)
def G19 (c30 : A30 → Option B30) (c20 : A20 → Option B20) : Nat → Option (Ctr τ) := tabG [(30, (⟨i30, o30, c30, 0⟩ : Ctr τ)), (20, (⟨i20, o20, c20, 0⟩ : Ctr τ))]
abbrev LA19_0 : Type := ((List T29) × T1000020 × Int × Int × Unit)
abbrev LB19_0 : Type := ((List T29) × Int × Unit)
def li19_0 : Fr τ LA19_0 := (.own 0 29 (.val 1 (.clo 20 1000020) (.val 5 (.int .i64) (.val 6 (.int .i64) .nil))))
def lo19_0 : Ot τ LB19_0 := .one (.exit 0) (.own 0 29 (.val 5 (.int .i64) .nil))
def Q19_0 (c30 : A30 → Option B30) (c20 : A20 → Option B20) : LA19_0 → Option (LA19_0 ⊕ LB19_0) := fun ⟨s', ⟨⟨del'_0, del'_1⟩, ⟨i', ⟨j', ()⟩⟩⟩⟩ => (let v0 : Int := ↑(List.length s'); bif decide (j' < v0) then ((bif decide (0 ≤ j') && decide (j' < v0) then some () else none).bind fun () => ((s'[Int.toNat j']?).bind fun ⟨y2_0, ⟨y2_1, ⟨y2_2, y2_3⟩⟩⟩ => ((c20 ((y2_0, (y2_1, (y2_2, y2_3))), (del'_0, (del'_1, ())))).bind fun ⟨y3, ()⟩ => (bif !y3 then ((bif decide (0 ≤ i') && decide (i' < v0) then some () else none).bind fun () => ((((s'[Int.toNat i']?).bind fun ⟨y46_0, ⟨y46_1, ⟨y46_2, y46_3⟩⟩⟩ => (some (y2_0, (y2_1, (y2_2, y2_3))))) : (Option (ByteArray × (Int × (Int × Int))))).bind fun ⟨y6_0, ⟨y6_1, ⟨y6_2, y6_3⟩⟩⟩ => (let v1 : Int := i' + 1; let v2 : Int := IntKind.wrap IntKind.i64 v1; let v3 : Int := j' + 1; let v4 : Int := IntKind.wrap IntKind.i64 v3; some (.inl (List.set s' (Int.toNat i') (y6_0, y6_1, y6_2, y6_3), ((del'_0, del'_1), (v2, (v4, ())))))))) else (let v1 : Int := j' + 1; let v2 : Int := IntKind.wrap IntKind.i64 v1; some (.inl (s', ((del'_0, del'_1), (i', (v2, ())))))))))) else (some (.inr (s', (i', ())))))
def R19_0 : LA19_0 → Option (LA19_0 ⊕ LB19_0) := Q19_0 N30 N20
def L19_0 : Lc τ := ⟨li19_0, itrs R19_0, lo19_0⟩
def M19 (c30 : A30 → Option B30) (c20 : A20 → Option B20) (l19_0 : LA19_0 → Option LB19_0) : A19 → Option B19 := fun ⟨s', ⟨⟨del'_0, del'_1⟩, ()⟩⟩ => ((c30 (s', ((del'_0, del'_1), ()))).bind fun ⟨y0, ()⟩ => (bif y0 == -1 then (some (s', ())) else (let v0 : Int := y0 + 1; let v1 : Int := IntKind.wrap IntKind.i64 v0; (l19_0 (s', ((del'_0, del'_1), (y0, (v1, ()))))).bind fun ⟨y2_0, ⟨y2_1, ()⟩⟩ => (let v2 : Int := ↑(List.length y2_0); (bif decide (0 ≤ y2_1) && decide (y2_1 ≤ v2) && decide (v2 ≤ v2) then some () else none).bind fun () => ((bif Nat.ble (Int.toNat y2_1 + (Int.toNat v2 - Int.toNat y2_1)) (List.length y2_0) then some () else none).bind fun () => (let v3 : Int := ↑(List.length (List.take (Int.toNat y2_1) y2_0 ++ List.replicate (Int.toNat v2 - Int.toNat y2_1) ({ data := #[] }, (0 : Int), (0 : Int), (0 : Int)) ++ List.drop (Int.toNat y2_1 + (Int.toNat v2 - Int.toNat y2_1)) y2_0)); (bif true && decide (0 ≤ y2_1) && decide (y2_1 ≤ v3) then some () else none).bind fun () => ((bif Nat.ble (Int.toNat y2_1 - (0 : Nat)) (List.length (List.take (Int.toNat y2_1) y2_0 ++ List.replicate (Int.toNat v2 - Int.toNat y2_1) ({ data := #[] }, (0 : Int), (0 : Int), (0 : Int)) ++ List.drop (Int.toNat y2_1 + (Int.toNat v2 - Int.toNat y2_1)) y2_0)) then some () else none).bind fun () => (some (List.take (Int.toNat y2_1 - (0 : Nat)) (List.take (Int.toNat y2_1) y2_0 ++ List.replicate (Int.toNat v2 - Int.toNat y2_1) ({ data := #[] }, (0 : Int), (0 : Int), (0 : Int)) ++ List.drop (Int.toNat y2_1 + (Int.toNat v2 - Int.toNat y2_1)) y2_0), ())))))))))
def N19 : A19 → Option B19 := M19 N30 N20 (itrs R19_0)
def C19 : Ctr τ := ⟨i19, o19, N19, 0⟩
theorem g19 : GOK κ Try.prog (G19 N30 N20) := (gok_cons s30 (keeps0 rfl) (gok_cons s20 (keeps0 rfl) gok_nil))
theorem le19_0 : ∀ (c30 : A30 → Option B30) (c20 : A20 → Option B20) x, Q19_0 c30 c20 x = run Try.prog κ (G19 c30 c20) (tabL []) 0 (loopAt Try.f19 0) (li19_0.build x) (rnd li19_0 lo19_0) := fun c30 c20 x => by kernel_rfl
theorem linner19_0 : ∀ Z : Zn, Z.rl = [] → 42 ≤ Z.nt → ∀ p ∈ loops 0 (loopAt Try.f19 0), ∀ C, (tabL []) p.1 = some C → LoopOK κ Try.prog Z p.2 C := fun Z h n => fun p hp => (by cases (show p ∈ ([] : List (Nat × Code)) from hp))
theorem lk19_0 : ∀ Z : Zn, Z.rl = [] → 42 ≤ Z.nt → LoopOK κ Try.prog Z (loopAt Try.f19 0) L19_0 := fun Z h n => loop_ok (S := (tabL [])) R19_0 (by kernel_rfl) g19 (by rw [h]; exact dsts_mono n _ (by kernel_rfl)) (linner19_0 Z h n) (by kernel_rfl) (by kernel_rfl) (le19_0 N30 N20) itrs_rounds
theorem lall19 : ∀ Z : Zn, Z.rl = C19.o.keeps → Try.f19.ntmps ≤ Z.nt → ∀ p ∈ loops 0 (bodyOf Try.f19), ∀ C, (tabL [(0, L19_0)]) p.1 = some C → LoopOK κ Try.prog Z p.2 C := fun Z h n => all_loops [(0, loopAt Try.f19 0)] (by kernel_rfl) (all_cons (fun C hC => (Option.some.inj hC : L19_0 = C) ▸ lk19_0 Z h n) (fun _ h => by cases h))
theorem e19 : ∀ (c30 : A30 → Option B30) (c20 : A20 → Option B20) (l19_0 : LA19_0 → Option LB19_0) x, M19 c30 c20 l19_0 x = fnE Try.prog κ (G19 c30 c20) (tabL [(0, (⟨li19_0, l19_0, lo19_0⟩ : Lc τ))]) Try.f19 i19 o19 x := fun c30 c20 l19_0 x => by kernel_rfl
theorem s19 : Sound κ Try.prog C19 19 := fn_sound (S := (tabL [(0, L19_0)])) (F := Try.f19) (code := bodyOf Try.f19) (by kernel_rfl) g19 Try.func19 (by kernel_rfl) (by kernel_rfl) (by kernel_rfl) lall19 (by kernel_rfl) (by kernel_rfl) fun x y h => (e19 N30 N20 (itrs R19_0) x).symm.trans h
end Go.Proofs.Ytedjdjngfdeheaa.E
namespace Go.Proofs.Ytedjdjngfdeheaa.E
open Go
set_option linter.unusedVariables false
set_option maxRecDepth 100000
abbrev A12 : Type := ((List T29 × Unit) × ByteArray × Int × Unit)
abbrev B12 : Type := (Int × (List T29 × Unit) × Unit)
def i12 : Fr τ A12 := (.ptr 0 none 46 (.own 29 .nil) (.val 1 .str (.val 2 (.int .i64) .nil)))
def o12 : Fr τ B12 := (.val 1000 (.int .i64) (.ptr 0 none 46 (.own 29 .nil) .nil))
def G12 (c20 : A20 → Option B20) (c19 : A19 → Option B19) : Nat → Option (Ctr τ) := tabG [(20, (⟨i20, o20, c20, 0⟩ : Ctr τ)), (19, (⟨i19, o19, c19, 0⟩ : Ctr τ))]
def M12 (c20 : A20 → Option B20) (c19 : A19 → Option B19) : A12 → Option B12 := fun ⟨⟨m', ()⟩, ⟨key', ⟨before', ()⟩⟩⟩ => ((c19 (m', ((key', before'), ()))).bind fun ⟨y0, ()⟩ => (let v0 : Int := ↑(List.length m'); let v1 : Int := ↑(List.length y0); let v2 : Int := v0 - v1; let v3 : Int := IntKind.wrap IntKind.i64 v2; some (v3, ((y0, ()), ()))))
def N12 : A12 → Option B12 := M12 N20 N19
def C12 : Ctr τ := ⟨i12, o12, N12, 0⟩
theorem g12 : GOK κ Try.prog (G12 N20 N19) := (gok_cons s20 (keeps0 rfl) (gok_cons s19 (keeps0 rfl) gok_nil))
theorem lall12 : ∀ Z : Zn, Z.rl = C12.o.keeps → Try.f12.ntmps ≤ Z.nt → ∀ p ∈ loops 0 (bodyOf Try.f12), ∀ C, (tabL []) p.1 = some C → LoopOK κ Try.prog Z p.2 C := fun Z h n => fun p hp => (by cases (show p ∈ ([] : List (Nat × Code)) from hp))
theorem e12 : ∀ (c20 : A20 → Option B20) (c19 : A19 → Option B19) x, M12 c20 c19 x = fnE Try.prog κ (G12 c20 c19) (tabL []) Try.f12 i12 o12 x := fun c20 c19 x => by kernel_rfl
theorem s12 : Sound κ Try.prog C12 12 := fn_sound (S := (tabL [])) (F := Try.f12) (code := bodyOf Try.f12) (by kernel_rfl) g12 Try.func12 (by kernel_rfl) (by kernel_rfl) (by kernel_rfl) lall12 (by kernel_rfl) (by kernel_rfl) fun x y h => (e12 N20 N19 x).symm.trans h
end Go.Proofs.Ytedjdjngfdeheaa.E
namespace Go.Proofs.Ytedjdjngfdeheaa.E
open Go
set_option linter.unusedVariables false
set_option maxRecDepth 100000
abbrev A3 : Type := ((List T29) × ByteArray × Int × Int × Int × Int × Unit)
abbrev B3 : Type := (Bool × Unit)
def i3 : Fr τ A3 := (.val 0 (.sl 29) (.val 1 .str (.val 2 (.int .i64) (.val 3 (.int .i64) (.val 4 (.int .i64) (.val 5 (.int .i64) .nil))))))
def o3 : Fr τ B3 := (.val 1000 .bool .nil)
def G3 (c7 : A7 → Option B7) (c8 : A8 → Option B8) (c9 : A9 → Option B9) (c10 : A10 → Option B10) (c11 : A11 → Option B11) (c12 : A12 → Option B12) : Nat → Option (Ctr τ) := tabG [(7, (⟨i7, o7, c7, 0⟩ : Ctr τ)), (8, (⟨i8, o8, c8, 0⟩ : Ctr τ)), (9, (⟨i9, o9, c9, 0⟩ : Ctr τ)), (10, (⟨i10, o10, c10, 0⟩ : Ctr τ)), (11, (⟨i11, o11, c11, 0⟩ : Ctr τ)), (12, (⟨i12, o12, c12, 0⟩ : Ctr τ))]
abbrev LA3_0 : Type := ((List T29) × ByteArray × Int × Int × Int × Int × (List T29 × Unit) × Int × Int × Unit)
abbrev LB3_0 : Type := (ByteArray × Int × Int × Int × Int × (List T29 × Unit) × Int × Unit)
def li3_0 : Fr τ LA3_0 := (.val 0 (.sl 29) (.val 1 .str (.val 2 (.int .i64) (.val 3 (.int .i64) (.val 4 (.int .i64) (.val 5 (.int .i64) (.ptr 13 none 46 (.own 29 .nil) (.val 14 (.int .i64) (.val 15 (.int .i64) .nil)))))))))
def lo3_0 : Ot τ LB3_0 := .one (.exit 0) (.val 1 .str (.val 2 (.int .i64) (.val 3 (.int .i64) (.val 4 (.int .i64) (.val 5 (.int .i64) (.ptr 13 none 46 (.own 29 .nil) (.val 14 (.int .i64) .nil)))))))
def Q3_0 (c7 : A7 → Option B7) (c8 : A8 → Option B8) (c9 : A9 → Option B9) (c10 : A10 → Option B10) (c11 : A11 → Option B11) (c12 : A12 → Option B12) : LA3_0 → Option (LA3_0 ⊕ LB3_0) := fun ⟨list', ⟨key', ⟨dim', ⟨from', ⟨mid', ⟨to', ⟨⟨m', ()⟩, ⟨taken', ⟨i', ()⟩⟩⟩⟩⟩⟩⟩⟩⟩ => (let v0 : Int := ↑(List.length list'); bif decide (i' < v0) then (bif decide (i' < 600) then ((bif decide (0 ≤ i') then list'[Int.toNat i']? else none).bind fun ⟨y2_0, ⟨y2_1, ⟨y2_2, y2_3⟩⟩⟩ => ((c9 ((m', ()), ((y2_0, (y2_1, (y2_2, y2_3))), ()))).bind fun ⟨y3_0, ⟨⟨y3_1, ()⟩, ()⟩⟩ => (bif y3_0 == 0 then (let v1 : Int := taken' + 1; let v2 : Int := IntKind.wrap IntKind.i64 v1; let v3 : Int := i' + 1; let v4 : Int := IntKind.wrap IntKind.i64 v3; some (.inl (list', (key', (dim', (from', (mid', (to', ((y3_1, ()), (v2, (v4, ()))))))))))) else (let v1 : Int := i' + 1; let v2 : Int := IntKind.wrap IntKind.i64 v1; some (.inl (list', (key', (dim', (from', (mid', (to', ((y3_1, ()), (taken', (v2, ())))))))))))))) else (some (.inr (key', (dim', (from', (mid', (to', ((m', ()), (taken', ())))))))))) else (some (.inr (key', (dim', (from', (mid', (to', ((m', ()), (taken', ()))))))))))
def R3_0 : LA3_0 → Option (LA3_0 ⊕ LB3_0) := Q3_0 N7 N8 N9 N10 N11 N12
def L3_0 : Lc τ := ⟨li3_0, itrs R3_0, lo3_0⟩
def M3 (c7 : A7 → Option B7) (c8 : A8 → Option B8) (c9 : A9 → Option B9) (c10 : A10 → Option B10) (c11 : A11 → Option B11) (c12 : A12 → Option B12) (l3_0 : LA3_0 → Option LB3_0) : A3 → Option B3 := fun ⟨list', ⟨key', ⟨dim', ⟨from', ⟨mid', ⟨to', ()⟩⟩⟩⟩⟩⟩ => ((c7 ()).bind fun ⟨y0, ()⟩ => (bif !y0 then (some (false, ())) else ((c8 ()).bind fun ⟨⟨y2, ()⟩, ()⟩ => ((l3_0 (list', (key', (dim', (from', (mid', (to', ((y2, ()), (0, (0, ())))))))))).bind fun ⟨y3_0, ⟨y3_1, ⟨y3_2, ⟨y3_3, ⟨y3_4, ⟨⟨y3_5, ()⟩, ⟨y3_6, ()⟩⟩⟩⟩⟩⟩⟩ => ((c10 (y3_5, ())).bind fun ⟨y4, ()⟩ => (bif y4 != y3_6 then (some (false, ())) else ((c11 (y3_5, (y3_0, (y3_1, (y3_2, (y3_4, ())))))).bind fun ⟨y6, ()⟩ => (bif decide (y3_2 ≤ y3_3) then (bif decide (y3_3 ≤ y3_4) then ((c11 (y3_5, (y3_0, (y3_1, (y3_2, (y3_3, ())))))).bind fun ⟨y9, ()⟩ => ((c11 (y3_5, (y3_0, (y3_1, (y3_3, (y3_4, ())))))).bind fun ⟨y10, ()⟩ => (let v0 : Int := y9 + y10; let v1 : Int := IntKind.wrap IntKind.i64 v0; bif y6 != v1 then (some (false, ())) else ((c11 (y3_5, (y3_0, (y3_1, (y3_3, (1000001, ())))))).bind fun ⟨y12, ()⟩ => ((bif decide (ByteArray.size y3_0 + 1 ≤ 9223372036854775807) then some () else none).bind fun () => ((c11 (y3_5, (y3_0 ++ { data := #[120] }, (y3_1, (0, (1000001, ())))))).bind fun ⟨y14, ()⟩ => ((c12 ((y3_5, ()), (y3_0, (y3_3, ())))).bind fun ⟨y15_0, ⟨⟨y15_1, ()⟩, ()⟩⟩ => ((c10 (y15_1, ())).bind fun ⟨y16, ()⟩ => (let v2 : Int := y3_6 - y15_0; let v3 : Int := IntKind.wrap IntKind.i64 v2; bif y16 != v3 then (some (false, ())) else ((c11 (y15_1, (y3_0, (y3_1, (-9223372036854775808, (y3_3, ())))))).bind fun ⟨y18, ()⟩ => (bif y18 != 0 then (some (false, ())) else ((c11 (y15_1, (y3_0, (y3_1, (y3_3, (1000001, ())))))).bind fun ⟨y20, ()⟩ => (bif y20 != y12 then (some (false, ())) else ((bif decide (ByteArray.size y3_0 + 1 ≤ 9223372036854775807) then some () else none).bind fun () => ((c11 (y15_1, (y3_0 ++ { data := #[120] }, (y3_1, (0, (1000001, ())))))).bind fun ⟨y23, ()⟩ => (bif y23 != y14 then (some (false, ())) else ((c12 ((y15_1, ()), (y3_0, (y3_3, ())))).bind fun ⟨y25_0, ⟨⟨y25_1, ()⟩, ()⟩⟩ => (bif y25_0 == 0 then (some (decide (y6 ≥ 0), ())) else (some (false, ())))))))))))))))))))) else ((c11 (y3_5, (y3_0, (y3_1, (y3_3, (1000001, ())))))).bind fun ⟨y9, ()⟩ => ((bif decide (ByteArray.size y3_0 + 1 ≤ 9223372036854775807) then some () else none).bind fun () => ((c11 (y3_5, (y3_0 ++ { data := #[120] }, (y3_1, (0, (1000001, ())))))).bind fun ⟨y11, ()⟩ => ((c12 ((y3_5, ()), (y3_0, (y3_3, ())))).bind fun ⟨y12_0, ⟨⟨y12_1, ()⟩, ()⟩⟩ => ((c10 (y12_1, ())).bind fun ⟨y13, ()⟩ => (let v0 : Int := y3_6 - y12_0; let v1 : Int := IntKind.wrap IntKind.i64 v0; bif y13 != v1 then (some (false, ())) else ((c11 (y12_1, (y3_0, (y3_1, (-9223372036854775808, (y3_3, ())))))).bind fun ⟨y15, ()⟩ => (bif y15 != 0 then (some (false, ())) else ((c11 (y12_1, (y3_0, (y3_1, (y3_3, (1000001, ())))))).bind fun ⟨y17, ()⟩ => (bif y17 != y9 then (some (false, ())) else ((bif decide (ByteArray.size y3_0 + 1 ≤ 9223372036854775807) then some () else none).bind fun () => ((c11 (y12_1, (y3_0 ++ { data := #[120] }, (y3_1, (0, (1000001, ())))))).bind fun ⟨y20, ()⟩ => (bif y20 != y11 then (some (false, ())) else ((c12 ((y12_1, ()), (y3_0, (y3_3, ())))).bind fun ⟨y22_0, ⟨⟨y22_1, ()⟩, ()⟩⟩ => (bif y22_0 == 0 then (some (decide (y6 ≥ 0), ())) else (some (false, ())))))))))))))))))) else ((c11 (y3_5, (y3_0, (y3_1, (y3_3, (1000001, ())))))).bind fun ⟨y8, ()⟩ => ((bif decide (ByteArray.size y3_0 + 1 ≤ 9223372036854775807) then some () else none).bind fun () => ((c11 (y3_5, (y3_0 ++ { data := #[120] }, (y3_1, (0, (1000001, ())))))).bind fun ⟨y10, ()⟩ => ((c12 ((y3_5, ()), (y3_0, (y3_3, ())))).bind fun ⟨y11_0, ⟨⟨y11_1, ()⟩, ()⟩⟩ => ((c10 (y11_1, ())).bind fun ⟨y12, ()⟩ => (let v0 : Int := y3_6 - y11_0; let v1 : Int := IntKind.wrap IntKind.i64 v0; bif y12 != v1 then (some (false, ())) else ((c11 (y11_1, (y3_0, (y3_1, (-9223372036854775808, (y3_3, ())))))).bind fun ⟨y14, ()⟩ => (bif y14 != 0 then (some (false, ())) else ((c11 (y11_1, (y3_0, (y3_1, (y3_3, (1000001, ())))))).bind fun ⟨y16, ()⟩ => (bif y16 != y8 then (some (false, ())) else ((bif decide (ByteArray.size y3_0 + 1 ≤ 9223372036854775807) then some () else none).bind fun () => ((c11 (y11_1, (y3_0 ++ { data := #[120] }, (y3_1, (0, (1000001, ())))))).bind fun ⟨y19, ()⟩ => (bif y19 != y10 then (some (false, ())) else ((c12 ((y11_1, ()), (y3_0, (y3_3, ())))).bind fun ⟨y21_0, ⟨⟨y21_1, ()⟩, ()⟩⟩ => (bif y21_0 == 0 then (some (decide (y6 ≥ 0), ())) else (some (false, ())))))))))))))))))))))))))
def N3 : A3 → Option B3 := M3 N7 N8 N9 N10 N11 N12 (itrs R3_0)
def C3 : Ctr τ := ⟨i3, o3, N3, 0⟩
theorem g3 : GOK κ Try.prog (G3 N7 N8 N9 N10 N11 N12) := (gok_cons s7 (keeps0 rfl) (gok_cons s8 (keeps0 rfl) (gok_cons s9 (keeps0 rfl) (gok_cons s10 (keeps0 rfl) (gok_cons s11 (keeps0 rfl) (gok_cons s12 (keeps0 rfl) gok_nil))))))
theorem le3_0 : ∀ (c7 : A7 → Option B7) (c8 : A8 → Option B8) (c9 : A9 → Option B9) (c10 : A10 → Option B10) (c11 : A11 → Option B11) (c12 : A12 → Option B12) x, Q3_0 c7 c8 c9 c10 c11 c12 x = run Try.prog κ (G3 c7 c8 c9 c10 c11 c12) (tabL []) 0 (loopAt Try.f3 0) (li3_0.build x) (rnd li3_0 lo3_0) := fun c7 c8 c9 c10 c11 c12 x => by kernel_rfl
theorem linner3_0 : ∀ Z : Zn, Z.rl = [] → 132 ≤ Z.nt → ∀ p ∈ loops 0 (loopAt Try.f3 0), ∀ C, (tabL []) p.1 = some C → LoopOK κ Try.prog Z p.2 C := fun Z h n => fun p hp => (by cases (show p ∈ ([] : List (Nat × Code)) from hp))
theorem lk3_0 : ∀ Z : Zn, Z.rl = [] → 132 ≤ Z.nt → LoopOK κ Try.prog Z (loopAt Try.f3 0) L3_0 := fun Z h n => loop_ok (S := (tabL [])) R3_0 (by kernel_rfl) g3 (by rw [h]; exact dsts_mono n _ (by kernel_rfl)) (linner3_0 Z h n) (by kernel_rfl) (by kernel_rfl) (le3_0 N7 N8 N9 N10 N11 N12) itrs_rounds
theorem lall3 : ∀ Z : Zn, Z.rl = C3.o.keeps → Try.f3.ntmps ≤ Z.nt → ∀ p ∈ loops 0 (bodyOf Try.f3), ∀ C, (tabL [(0, L3_0)]) p.1 = some C → LoopOK κ Try.prog Z p.2 C := fun Z h n => all_loops [(0, loopAt Try.f3 0)] (by kernel_rfl) (all_cons (fun C hC => (Option.some.inj hC : L3_0 = C) ▸ lk3_0 Z h n) (fun _ h => by cases h))
theorem e3 : ∀ (c7 : A7 → Option B7) (c8 : A8 → Option B8) (c9 : A9 → Option B9) (c10 : A10 → Option B10) (c11 : A11 → Option B11) (c12 : A12 → Option B12) (l3_0 : LA3_0 → Option LB3_0) x, M3 c7 c8 c9 c10 c11 c12 l3_0 x = fnE Try.prog κ (G3 c7 c8 c9 c10 c11 c12) (tabL [(0, (⟨li3_0, l3_0, lo3_0⟩ : Lc τ))]) Try.f3 i3 o3 x := fun c7 c8 c9 c10 c11 c12 l3_0 x => by kernel_rfl
theorem s3 : Sound κ Try.prog C3 3 := fn_sound (S := (tabL [(0, L3_0)])) (F := Try.f3) (code := bodyOf Try.f3) (by kernel_rfl) g3 Try.func3 (by kernel_rfl) (by kernel_rfl) (by kernel_rfl) lall3 (by kernel_rfl) (by kernel_rfl) fun x y h => (e3 N7 N8 N9 N10 N11 N12 (itrs R3_0) x).symm.trans h
end Go.Proofs.Ytedjdjngfdeheaa.E
namespace Go.Proofs.Ytedjdjngfdeheaa.E
open Go
set_option linter.unusedVariables false
set_option maxRecDepth 100000
abbrev A33 : Type := (ByteArray × Unit)
abbrev B33 : Type := (Bool × Unit)
def i33 : Fr τ A33 := (.val 0 .str .nil)
def o33 : Fr τ B33 := (.val 1000 .bool .nil)
def G33 : Nat → Option (Ctr τ) := tabG []
def M33 : A33 → Option B33 := fun ⟨x', ()⟩ => (some (!ByteArray.toList x' == ByteArray.toList x', ()))
def N33 : A33 → Option B33 := M33
def C33 : Ctr τ := ⟨i33, o33, N33, 0⟩
theorem g33 : GOK κ Try.prog (G33) := gok_nil
theorem lall33 : ∀ Z : Zn, Z.rl = C33.o.keeps → Try.f33.ntmps ≤ Z.nt → ∀ p ∈ loops 0 (bodyOf Try.f33), ∀ C, (tabL []) p.1 = some C → LoopOK κ Try.prog Z p.2 C := fun Z h n => fun p hp => (by cases (show p ∈ ([] : List (Nat × Code)) from hp))
theorem e33 : ∀ x, M33 x = fnE Try.prog κ (G33) (tabL []) Try.f33 i33 o33 x := fun x => by kernel_rfl
theorem s33 : Sound κ Try.prog C33 33 := fn_sound (S := (tabL [])) (F := Try.f33) (code := bodyOf Try.f33) (by kernel_rfl) g33 Try.func33 (by kernel_rfl) (by kernel_rfl) (by kernel_rfl) lall33 (by kernel_rfl) (by kernel_rfl) fun x y h => (e33 x).symm.trans h
end Go.Proofs.Ytedjdjngfdeheaa.E
namespace Go.Proofs.Ytedjdjngfdeheaa.E
open Go
set_option linter.unusedVariables false
set_option maxRecDepth 100000
abbrev A25 : Type := (ByteArray × ByteArray × Unit)
abbrev B25 : Type := (Int × Unit)
def i25 : Fr τ A25 := (.val 0 .str (.val 1 .str .nil))
def o25 : Fr τ B25 := (.val 1000 (.int .i64) .nil)
def G25 (c33 : A33 → Option B33) : Nat → Option (Ctr τ) := tabG [(33, (⟨i33, o33, c33, 0⟩ : Ctr τ))]
def M25 (c33 : A33 → Option B33) : A25 → Option B25 := fun ⟨x', ⟨y', ()⟩⟩ => ((c33 (x', ())).bind fun ⟨y0, ()⟩ => ((c33 (y', ())).bind fun ⟨y1, ()⟩ => (bif y0 then (bif y1 then (some (0, ())) else (some (-1, ()))) else (bif y1 then (some (1, ())) else (bif Op.bytesLess (ByteArray.toList x') (ByteArray.toList y') then (some (-1, ())) else (bif !(Op.bytesLess (ByteArray.toList x') (ByteArray.toList y') || ByteArray.toList x' == ByteArray.toList y') then (some (1, ())) else (some (0, ()))))))))
def N25 : A25 → Option B25 := M25 N33
def C25 : Ctr τ := ⟨i25, o25, N25, 0⟩
theorem g25 : GOK κ Try.prog (G25 N33) := (gok_cons s33 (keeps0 rfl) gok_nil)
theorem lall25 : ∀ Z : Zn, Z.rl = C25.o.keeps → Try.f25.ntmps ≤ Z.nt → ∀ p ∈ loops 0 (bodyOf Try.f25), ∀ C, (tabL []) p.1 = some C → LoopOK κ Try.prog Z p.2 C := fun Z h n => fun p hp => (by cases (show p ∈ ([] : List (Nat × Code)) from hp))
theorem e25 : ∀ (c33 : A33 → Option B33) x, M25 c33 x = fnE Try.prog κ (G25 c33) (tabL []) Try.f25 i25 o25 x := fun c33 x => by kernel_rfl
theorem s25 : Sound κ Try.prog C25 25 := fn_sound (S := (tabL [])) (F := Try.f25) (code := bodyOf Try.f25) (by kernel_rfl) g25 Try.func25 (by kernel_rfl) (by kernel_rfl) (by kernel_rfl) lall25 (by kernel_rfl) (by kernel_rfl) fun x y h => (e25 N33 x).symm.trans h
end Go.Proofs.Ytedjdjngfdeheaa.E
namespace Go.Proofs.Ytedjdjngfdeheaa.E
open Go
set_option linter.unusedVariables false
set_option maxRecDepth 100000
abbrev A34 : Type := (Int × Unit)
abbrev B34 : Type := (Bool × Unit)
def i34 : Fr τ A34 := (.val 0 (.int .i64) .nil)
def o34 : Fr τ B34 := (.val 1000 .bool .nil)
def G34 : Nat → Option (Ctr τ) := tabG []
def M34 : A34 → Option B34 := fun ⟨x', ()⟩ => (some (x' != x', ()))
def N34 : A34 → Option B34 := M34
def C34 : Ctr τ := ⟨i34, o34, N34, 0⟩
theorem g34 : GOK κ Try.prog (G34) := gok_nil
theorem lall34 : ∀ Z : Zn, Z.rl = C34.o.keeps → Try.f34.ntmps ≤ Z.nt → ∀ p ∈ loops 0 (bodyOf Try.f34), ∀ C, (tabL []) p.1 = some C → LoopOK κ Try.prog Z p.2 C := fun Z h n => fun p hp => (by cases (show p ∈ ([] : List (Nat × Code)) from hp))
theorem e34 : ∀ x, M34 x = fnE Try.prog κ (G34) (tabL []) Try.f34 i34 o34 x := fun x => by kernel_rfl
theorem s34 : Sound κ Try.prog C34 34 := fn_sound (S := (tabL [])) (F := Try.f34) (code := bodyOf Try.f34) (by kernel_rfl) g34 Try.func34 (by kernel_rfl) (by kernel_rfl) (by kernel_rfl) lall34 (by kernel_rfl) (by kernel_rfl) fun x y h => (e34 x).symm.trans h
end Go.Proofs.Ytedjdjngfdeheaa.E
namespace Go.Proofs.Ytedjdjngfdeheaa.E
open Go
set_option linter.unusedVariables false
set_option maxRecDepth 100000
abbrev A26 : Type := (Int × Int × Unit)
abbrev B26 : Type := (Int × Unit)
def i26 : Fr τ A26 := (.val 0 (.int .i64) (.val 1 (.int .i64) .nil))
def o26 : Fr τ B26 := (.val 1000 (.int .i64) .nil)
def G26 (c34 : A34 → Option B34) : Nat → Option (Ctr τ) := tabG [(34, (⟨i34, o34, c34, 0⟩ : Ctr τ))]
def M26 (c34 : A34 → Option B34) : A26 → Option B26 := fun ⟨x', ⟨y', ()⟩⟩ => ((c34 (x', ())).bind fun ⟨y0, ()⟩ => ((c34 (y', ())).bind fun ⟨y1, ()⟩ => (bif y0 then (bif y1 then (some (0, ())) else (some (-1, ()))) else (bif y1 then (some (1, ())) else (bif decide (x' < y') then (some (-1, ())) else (bif decide (x' > y') then (some (1, ())) else (some (0, ()))))))))
def N26 : A26 → Option B26 := M26 N34
def C26 : Ctr τ := ⟨i26, o26, N26, 0⟩
theorem g26 : GOK κ Try.prog (G26 N34) := (gok_cons s34 (keeps0 rfl) gok_nil)
theorem lall26 : ∀ Z : Zn, Z.rl = C26.o.keeps → Try.f26.ntmps ≤ Z.nt → ∀ p ∈ loops 0 (bodyOf Try.f26), ∀ C, (tabL []) p.1 = some C → LoopOK κ Try.prog Z p.2 C := fun Z h n => fun p hp => (by cases (show p ∈ ([] : List (Nat × Code)) from hp))
theorem e26 : ∀ (c34 : A34 → Option B34) x, M26 c34 x = fnE Try.prog κ (G26 c34) (tabL []) Try.f26 i26 o26 x := fun c34 x => by kernel_rfl
theorem s26 : Sound κ Try.prog C26 26 := fn_sound (S := (tabL [])) (F := Try.f26) (code := bodyOf Try.f26) (by kernel_rfl) g26 Try.func26 (by kernel_rfl) (by kernel_rfl) (by kernel_rfl) lall26 (by kernel_rfl) (by kernel_rfl) fun x y h => (e26 N34 x).symm.trans h
end Go.Proofs.Ytedjdjngfdeheaa.E
namespace Go.Proofs.Ytedjdjngfdeheaa.E
open Go
set_option linter.unusedVariables false
set_option maxRecDepth 100000
abbrev A35 : Type := (Int × Unit)
abbrev B35 : Type := (Bool × Unit)
def i35 : Fr τ A35 := (.val 0 (.int .i64) .nil)
def o35 : Fr τ B35 := (.val 1000 .bool .nil)
def G35 : Nat → Option (Ctr τ) := tabG []
def M35 : A35 → Option B35 := fun ⟨x', ()⟩ => (some (x' != x', ()))
def N35 : A35 → Option B35 := M35
def C35 : Ctr τ := ⟨i35, o35, N35, 0⟩
theorem g35 : GOK κ Try.prog (G35) := gok_nil
theorem lall35 : ∀ Z : Zn, Z.rl = C35.o.keeps → Try.f35.ntmps ≤ Z.nt → ∀ p ∈ loops 0 (bodyOf Try.f35), ∀ C, (tabL []) p.1 = some C → LoopOK κ Try.prog Z p.2 C := fun Z h n => fun p hp => (by cases (show p ∈ ([] : List (Nat × Code)) from hp))
theorem e35 : ∀ x, M35 x = fnE Try.prog κ (G35) (tabL []) Try.f35 i35 o35 x := fun x => by kernel_rfl
theorem s35 : Sound κ Try.prog C35 35 := fn_sound (S := (tabL [])) (F := Try.f35) (code := bodyOf Try.f35) (by kernel_rfl) g35 Try.func35 (by kernel_rfl) (by kernel_rfl) (by kernel_rfl) lall35 (by kernel_rfl) (by kernel_rfl) fun x y h => (e35 x).symm.trans h
end Go.Proofs.Ytedjdjngfdeheaa.E
namespace Go.Proofs.Ytedjdjngfdeheaa.E
open Go
set_option linter.unusedVariables false
set_option maxRecDepth 100000
abbrev A27 : Type := (Int × Int × Unit)
abbrev B27 : Type := (Int × Unit)
def i27 : Fr τ A27 := (.val 0 (.int .i64) (.val 1 (.int .i64) .nil))
def o27 : Fr τ B27 := (.val 1000 (.int .i64) .nil)
def G27 (c35 : A35 → Option B35) : Nat → Option (Ctr τ) := tabG [(35, (⟨i35, o35, c35, 0⟩ : Ctr τ))]
def M27 (c35 : A35 → Option B35) : A27 → Option B27 := fun ⟨x', ⟨y', ()⟩⟩ => ((c35 (x', ())).bind fun ⟨y0, ()⟩ => ((c35 (y', ())).bind fun ⟨y1, ()⟩ => (bif y0 then (bif y1 then (some (0, ())) else (some (-1, ()))) else (bif y1 then (some (1, ())) else (bif decide (x' < y') then (some (-1, ())) else (bif decide (x' > y') then (some (1, ())) else (some (0, ()))))))))
def N27 : A27 → Option B27 := M27 N35
def C27 : Ctr τ := ⟨i27, o27, N27, 0⟩
theorem g27 : GOK κ Try.prog (G27 N35) := (gok_cons s35 (keeps0 rfl) gok_nil)
theorem lall27 : ∀ Z : Zn, Z.rl = C27.o.keeps → Try.f27.ntmps ≤ Z.nt → ∀ p ∈ loops 0 (bodyOf Try.f27), ∀ C, (tabL []) p.1 = some C → LoopOK κ Try.prog Z p.2 C := fun Z h n => fun p hp => (by cases (show p ∈ ([] : List (Nat × Code)) from hp))
theorem e27 : ∀ (c35 : A35 → Option B35) x, M27 c35 x = fnE Try.prog κ (G27 c35) (tabL []) Try.f27 i27 o27 x := fun c35 x => by kernel_rfl
theorem s27 : Sound κ Try.prog C27 27 := fn_sound (S := (tabL [])) (F := Try.f27) (code := bodyOf Try.f27) (by kernel_rfl) g27 Try.func27 (by kernel_rfl) (by kernel_rfl) (by kernel_rfl) lall27 (by kernel_rfl) (by kernel_rfl) fun x y h => (e27 N35 x).symm.trans h
end Go.Proofs.Ytedjdjngfdeheaa.E
namespace Go.Proofs.Ytedjdjngfdeheaa.E
open Go
set_option linter.unusedVariables false
set_option maxRecDepth 100000
abbrev A24 : Type := ((List T3) × Unit)
abbrev B24 : Type := (Int × Unit)
def i24 : Fr τ A24 := (.val 0 (.sl 3) .nil)
def o24 : Fr τ B24 := (.val 1000 (.int .i64) .nil)
def G24 : Nat → Option (Ctr τ) := tabG []
abbrev LA24_0 : Type := (Int × (List T3) × Int × Int × Unit)
abbrev LB24_0 : Type := (Int × Unit) ⊕ (Int × Unit)
def li24_0 : Fr τ LA24_0 := (.val 3 (.int .i64) (.val 6 (.sl 3) (.val 7 (.int .i64) (.val 8 (.int .i64) .nil))))
def lo24_0 : Ot τ LB24_0 := .alt (.exit 0) (.val 3 (.int .i64) .nil) (.one .ret (.val 2 (.int .i64) .nil))
def Q24_0 : LA24_0 → Option (LA24_0 ⊕ LB24_0) := fun ⟨zero', ⟨t6', ⟨t7', ⟨t8', ()⟩⟩⟩⟩ => (bif decide (t8' < t7') then ((bif decide (0 ≤ t8') then t6'[Int.toNat t8']? else none).bind fun y1 => (bif y1 != zero' then (some (.inr (.inr (y1, ())))) else (let v0 : Int := t8' + 1; let v1 : Int := IntKind.wrap IntKind.i64 v0; some (.inl (zero', (t6', (t7', (v1, ())))))))) else (some (.inr (.inl (zero', ())))))
def R24_0 : LA24_0 → Option (LA24_0 ⊕ LB24_0) := Q24_0
def L24_0 : Lc τ := ⟨li24_0, itrs R24_0, lo24_0⟩
def M24 (l24_0 : LA24_0 → Option LB24_0) : A24 → Option B24 := fun ⟨vals', ()⟩ => (let v0 : Int := ↑(List.length vals'); (l24_0 (0, (vals', (v0, (0, ()))))).bind fun y0 => (match y0 with | .inl ⟨y1, ()⟩ => (some (y1, ())) | .inr ⟨y1, ()⟩ => (some (y1, ()))))
def N24 : A24 → Option B24 := M24 (itrs R24_0)
def C24 : Ctr τ := ⟨i24, o24, N24, 0⟩
theorem g24 : GOK κ Try.prog (G24) := gok_nil
theorem le24_0 : ∀ x, Q24_0 x = run Try.prog κ (G24) (tabL []) 0 (loopAt Try.f24 0) (li24_0.build x) (rnd li24_0 lo24_0) := fun x => by kernel_rfl
theorem linner24_0 : ∀ Z : Zn, Z.rl = [] → 18 ≤ Z.nt → ∀ p ∈ loops 0 (loopAt Try.f24 0), ∀ C, (tabL []) p.1 = some C → LoopOK κ Try.prog Z p.2 C := fun Z h n => fun p hp => (by cases (show p ∈ ([] : List (Nat × Code)) from hp))
theorem lk24_0 : ∀ Z : Zn, Z.rl = [] → 18 ≤ Z.nt → LoopOK κ Try.prog Z (loopAt Try.f24 0) L24_0 := fun Z h n => loop_ok (S := (tabL [])) R24_0 (by kernel_rfl) g24 (by rw [h]; exact dsts_mono n _ (by kernel_rfl)) (linner24_0 Z h n) (by kernel_rfl) (by kernel_rfl) (le24_0) itrs_rounds
theorem lall24 : ∀ Z : Zn, Z.rl = C24.o.keeps → Try.f24.ntmps ≤ Z.nt → ∀ p ∈ loops 0 (bodyOf Try.f24), ∀ C, (tabL [(0, L24_0)]) p.1 = some C → LoopOK κ Try.prog Z p.2 C := fun Z h n => all_loops [(0, loopAt Try.f24 0)] (by kernel_rfl) (all_cons (fun C hC => (Option.some.inj hC : L24_0 = C) ▸ lk24_0 Z h n) (fun _ h => by cases h))
theorem e24 : ∀ (l24_0 : LA24_0 → Option LB24_0) x, M24 l24_0 x = fnE Try.prog κ (G24) (tabL [(0, (⟨li24_0, l24_0, lo24_0⟩ : Lc τ))]) Try.f24 i24 o24 x := fun l24_0 x => by kernel_rfl
theorem s24 : Sound κ Try.prog C24 24 := fn_sound (S := (tabL [(0, L24_0)])) (F := Try.f24) (code := bodyOf Try.f24) (by kernel_rfl) g24 Try.func24 (by kernel_rfl) (by kernel_rfl) (by kernel_rfl) lall24 (by kernel_rfl) (by kernel_rfl) fun x y h => (e24 (itrs R24_0) x).symm.trans h
end Go.Proofs.Ytedjdjngfdeheaa.E
namespace Go.Proofs.Ytedjdjngfdeheaa.E
open Go
set_option linter.unusedVariables false
set_option maxRecDepth 100000
abbrev A23 : Type := ((ByteArray × (Int × (Int × Int))) × (ByteArray × (Int × (Int × Int))) × Unit)
abbrev B23 : Type := (Int × Unit)
def i23 : Fr τ A23 := (.val 0 (.pair .str (.pair (.int .i64) (.pair (.int .i64) (.int .i64)))) (.val 1 (.pair .str (.pair (.int .i64) (.pair (.int .i64) (.int .i64)))) .nil))
def o23 : Fr τ B23 := (.val 1000 (.int .i64) .nil)
def G23 (c25 : A25 → Option B25) (c26 : A26 → Option B26) (c27 : A27 → Option B27) (c24 : A24 → Option B24) : Nat → Option (Ctr τ) := tabG [(25, (⟨i25, o25, c25, 0⟩ : Ctr τ)), (26, (⟨i26, o26, c26, 0⟩ : Ctr τ)), (27, (⟨i27, o27, c27, 0⟩ : Ctr τ)), (24, (⟨i24, o24, c24, 0⟩ : Ctr τ))]
def M23 (c25 : A25 → Option B25) (c26 : A26 → Option B26) (c27 : A27 → Option B27) (c24 : A24 → Option B24) : A23 → Option B23 := fun ⟨⟨a'_0, ⟨a'_1, ⟨a'_2, a'_3⟩⟩⟩, ⟨⟨b'_0, ⟨b'_1, ⟨b'_2, b'_3⟩⟩⟩, ()⟩⟩ => ((c25 (a'_0, (b'_0, ()))).bind fun ⟨y0, ()⟩ => ((c26 (a'_1, (b'_1, ()))).bind fun ⟨y1, ()⟩ => ((c27 (a'_2, (b'_2, ()))).bind fun ⟨y2, ()⟩ => ((c27 (a'_3, (b'_3, ()))).bind fun ⟨y3, ()⟩ => ((c24 ([y0, y1, y2, y3], ())).bind fun ⟨y4, ()⟩ => (some (y4, ())))))))
def N23 : A23 → Option B23 := M23 N25 N26 N27 N24
def C23 : Ctr τ := ⟨i23, o23, N23, 0⟩
theorem g23 : GOK κ Try.prog (G23 N25 N26 N27 N24) := (gok_cons s25 (keeps0 rfl) (gok_cons s26 (keeps0 rfl) (gok_cons s27 (keeps0 rfl) (gok_cons s24 (keeps0 rfl) gok_nil))))
theorem lall23 : ∀ Z : Zn, Z.rl = C23.o.keeps → Try.f23.ntmps ≤ Z.nt → ∀ p ∈ loops 0 (bodyOf Try.f23), ∀ C, (tabL []) p.1 = some C → LoopOK κ Try.prog Z p.2 C := fun Z h n => fun p hp => (by cases (show p ∈ ([] : List (Nat × Code)) from hp))
theorem e23 : ∀ (c25 : A25 → Option B25) (c26 : A26 → Option B26) (c27 : A27 → Option B27) (c24 : A24 → Option B24) x, M23 c25 c26 c27 c24 x = fnE Try.prog κ (G23 c25 c26 c27 c24) (tabL []) Try.f23 i23 o23 x := fun c25 c26 c27 c24 x => by kernel_rfl
theorem s23 : Sound κ Try.prog C23 23 := fn_sound (S := (tabL [])) (F := Try.f23) (code := bodyOf Try.f23) (by kernel_rfl) g23 Try.func23 (by kernel_rfl) (by kernel_rfl) (by kernel_rfl) lall23 (by kernel_rfl) (by kernel_rfl) fun x y h => (e23 N25 N26 N27 N24 x).symm.trans h
end Go.Proofs.Ytedjdjngfdeheaa.E
/-
  The order of readings, and slices.SortFunc by it. No condition. (The laying of the shelf's contract is the kit's own print.)
-/
namespace Go.Proofs
open Go.Shelf
def Try.sortR_ren : Go.Shelf.Ren := ⟨fun | 6 => 22 | 15 => 32 | 14 => 31 | 28 => 44 | 29 => 45 | 20 => 36 | 21 => 37 | 22 => 38 | 23 => 39 | 24 => 40 | 25 => 41 | 26 => 42 | 27 => 43 | 46 => 46 | 47 => 47 | 48 => 48 | 49 => 49 | 50 => 50 | 57 => 51 | n => n, fun | 22 => 22 | 24 => 29 | 25 => 55 | 3 => 3 | 39 => 60 | 0 => 0 | 53 => 74 | 55 => 76 | 4 => 4 | 46 => 67 | 45 => 66 | 50 => 71 | 5 => 5 | 9 => 9 | 66 => 77 | 70 => 81 | 76 => 83 | 77 => 84 | n => n, fun | n => n⟩
theorem Try.sortR : Go.Proofs.SlLaysF0.n6 Try.prog Try.sortR_ren := {
  mixed := by kernel_rfl
  f6 := ⟨Try.f22.name, by decide, Try.func22.trans (congrArg some (by kernel_rfl))⟩
  f14 := ⟨Try.f31.name, by decide, Try.func31.trans (congrArg some (by kernel_rfl))⟩
  f15 := Try.func32.trans (congrArg some (by kernel_rfl))
  f20 := ⟨Try.f36.name, by decide, Try.func36.trans (congrArg some (by kernel_rfl))⟩
  f21 := ⟨Try.f37.name, by decide, Try.func37.trans (congrArg some (by kernel_rfl))⟩
  f22 := ⟨Try.f38.name, by decide, Try.func38.trans (congrArg some (by kernel_rfl))⟩
  f23 := ⟨Try.f39.name, by decide, Try.func39.trans (congrArg some (by kernel_rfl))⟩
  f24 := ⟨Try.f40.name, by decide, Try.func40.trans (congrArg some (by kernel_rfl))⟩
  f25 := ⟨Try.f41.name, by decide, Try.func41.trans (congrArg some (by kernel_rfl))⟩
  f26 := ⟨Try.f42.name, by decide, Try.func42.trans (congrArg some (by kernel_rfl))⟩
  f27 := ⟨Try.f43.name, by decide, Try.func43.trans (congrArg some (by kernel_rfl))⟩
  f28 := Try.func44.trans (congrArg some (by kernel_rfl))
  f29 := Try.func45.trans (congrArg some (by kernel_rfl))
  f46 := ⟨Try.f46.name, by decide, Try.func46.trans (congrArg some (by kernel_rfl))⟩
  f47 := Try.func47.trans (congrArg some (by kernel_rfl))
  f48 := Try.func48.trans (congrArg some (by kernel_rfl))
  f49 := ⟨Try.f49.name, by decide, Try.func49.trans (congrArg some (by kernel_rfl))⟩
  f50 := ⟨Try.f50.name, by decide, Try.func50.trans (congrArg some (by kernel_rfl))⟩
  f57 := ⟨Try.f51.name, by decide, Try.func51.trans (congrArg some (by kernel_rfl))⟩
  t0 := Try.underlying0
  a0 := Try.isAgg0
  z0 := Try.sizeOf0
  v0 := Try.zeroValue0
  t3 := Try.underlying3
  a3 := Try.isAgg3
  z3 := Try.sizeOf3
  v3 := Try.zeroValue3
  t4 := Try.underlying4
  a4 := Try.isAgg4
  z4 := Try.sizeOf4
  v4 := Try.zeroValue4
  t5 := Try.underlying5
  a5 := Try.isAgg5
  z5 := Try.sizeOf5
  v5 := Try.zeroValue5
  t9 := Try.underlying9
  a9 := Try.isAgg9
  z9 := Try.sizeOf9
  v9 := Try.zeroValue9
  t22 := Try.underlying22
  a22 := Try.isAgg22
  z22 := Try.sizeOf22
  v22 := Try.zeroValue22
  t25 := Try.underlying55
  a25 := Try.isAgg55
  z25 := Try.sizeOf55
  v25 := Try.zeroValue55
  t39 := Try.underlying60
  a39 := Try.isAgg60
  z39 := Try.sizeOf60
  v39 := Try.zeroValue60
  t45 := Try.underlying66
  a45 := Try.isAgg66
  z45 := Try.sizeOf66
  v45 := Try.zeroValue66
  t46 := Try.underlying67
  a46 := Try.isAgg67
  z46 := Try.sizeOf67
  v46 := Try.zeroValue67
  t50 := Try.underlying71
  a50 := Try.isAgg71
  z50 := Try.sizeOf71
  v50 := Try.zeroValue71
  t53 := Try.underlying74
  a53 := Try.isAgg74
  z53 := Try.sizeOf74
  v53 := Try.zeroValue74
  t55 := Try.underlying76
  a55 := Try.isAgg76
  z55 := Try.sizeOf76
  v55 := Try.zeroValue76
  t66 := Try.underlying77
  a66 := Try.isAgg77
  z66 := Try.sizeOf77
  v66 := Try.zeroValue77
  t70 := Try.underlying81
  a70 := Try.isAgg81
  z70 := Try.sizeOf81
  v70 := Try.zeroValue81
  t76 := Try.underlying83
  a76 := Try.isAgg83
  z76 := Try.sizeOf83
  v76 := Try.zeroValue83
  t77 := Try.underlying84
  a77 := Try.isAgg84
  z77 := Try.sizeOf84
  v77 := Try.zeroValue84 }
end Go.Proofs
namespace Go.Proofs.Ytedjdjngfdeheaa.E
open Go Go.Shelf Go.RowKit Go.Lib Go.Sort
set_option linter.unusedVariables false
set_option linter.unusedSimpArgs false
set_option maxRecDepth 100000
/-- A whole order. -/
structure Tot {α : Type} (lt : α → α → Bool) : Prop where
  irr : ∀ x, lt x x = false
  trans : ∀ x y z, lt x y = true → lt y z = true → lt x z = true
  tri : ∀ x y, lt x y = false → lt y x = false → x = y
theorem Tot.swo {α : Type} {lt : α → α → Bool} (h : Tot lt) : SWO lt := ⟨h.irr, h.trans, fun x y z h1 h2 => by
  cases h3 : lt x z with
  | false => rfl
  | true =>
    cases h4 : lt y x with
    | true => rw [h.trans y x z h4 h3] at h2; exact h2
    | false => rw [h.tri x y h1 h4, h2] at h3; cases h3⟩
def lexL {α β : Type} (l1 : α → α → Bool) (l2 : β → β → Bool) (x y : α × β) : Bool := l1 x.1 y.1 || (!(l1 y.1 x.1) && l2 x.2 y.2)
theorem Tot.lex {α β : Type} {l1 : α → α → Bool} {l2 : β → β → Bool} (h1 : Tot l1) (h2 : Tot l2) : Tot (lexL l1 l2) := ⟨fun x => by simp [lexL, h1.irr, h2.irr], fun x y z a b => by
  obtain ⟨x1, x2⟩ := x
  obtain ⟨y1, y2⟩ := y
  obtain ⟨z1, z2⟩ := z
  simp only [lexL, Bool.or_eq_true, Bool.and_eq_true, Bool.not_eq_true'] at *
  rcases a with a | ⟨a, a2⟩
  · rcases b with b | ⟨b, b2⟩
    · exact .inl (h1.trans _ _ _ a b)
    · cases c : l1 y1 z1 with
      | true => exact .inl (h1.trans _ _ _ a c)
      | false => rw [← h1.tri _ _ c b]; exact .inl a
  · cases c : l1 x1 y1 with
    | true =>
      rcases b with b | ⟨b, b2⟩
      · exact .inl (h1.trans _ _ _ c b)
      · cases c2 : l1 y1 z1 with
        | true => exact .inl (h1.trans _ _ _ c c2)
        | false => rw [← h1.tri _ _ c2 b]; exact .inl c
    | false =>
      have e := h1.tri _ _ c a
      subst e
      rcases b with b | ⟨b, b2⟩
      · exact .inl b
      · exact .inr ⟨b, h2.trans _ _ _ a2 b2⟩, fun x y a b => by
  obtain ⟨x1, x2⟩ := x
  obtain ⟨y1, y2⟩ := y
  simp only [lexL, Bool.or_eq_false_iff] at *
  obtain ⟨a, a2⟩ := a
  obtain ⟨b, b2⟩ := b
  rw [b] at a2
  rw [a] at b2
  rw [h1.tri x1 y1 a b, h2.tri x2 y2 (by simpa using a2) (by simpa using b2)]⟩
def ltI (x y : Int) : Bool := decide (x < y)
theorem totI : Tot ltI := ⟨fun x => by simp [ltI], fun x y z h1 h2 => by simp only [ltI, decide_eq_true_eq] at *; omega, fun x y h1 h2 => by simp only [ltI, decide_eq_false_iff_not] at *; omega⟩
theorem totL : Tot Op.bytesLess := by
  refine ⟨fun x => ?_, ?_, ?_⟩
  · induction x with
    | nil => rfl
    | cons a x ih => simp [Op.bytesLess, ih]
  · intro x
    induction x with
    | nil =>
      intro y z h1 h2
      cases z with
      | nil => cases y <;> simp [Op.bytesLess] at h2
      | cons c z => rfl
    | cons a x ih =>
      intro y z h1 h2
      cases y with
      | nil => simp [Op.bytesLess] at h1
      | cons b y =>
        cases z with
        | nil => simp [Op.bytesLess] at h2
        | cons c z =>
          simp only [Op.bytesLess, Bool.or_eq_true, Bool.and_eq_true, decide_eq_true_eq, beq_iff_eq, UInt8.lt_iff_toNat_lt] at *
          rcases h1 with h1 | ⟨rfl, h1⟩
          · rcases h2 with h2 | ⟨rfl, h2⟩
            · exact .inl (by omega)
            · exact .inl h1
          · rcases h2 with h2 | ⟨rfl, h2⟩
            · exact .inl h2
            · exact .inr ⟨rfl, ih _ _ h1 h2⟩
  · intro x
    induction x with
    | nil =>
      intro y h1 h2
      cases y with
      | nil => rfl
      | cons b y => simp [Op.bytesLess] at h1
    | cons a x ih =>
      intro y h1 h2
      cases y with
      | nil => simp [Op.bytesLess] at h2
      | cons b y =>
        simp only [Op.bytesLess, Bool.or_eq_false_iff, decide_eq_false_iff_not, UInt8.lt_iff_toNat_lt] at *
        have e : a = b := UInt8.toNat_inj.1 (by omega)
        subst e
        simp only [beq_self_eq_true, Bool.true_and] at h1 h2
        rw [ih _ h1.2 h2.2]
def ltB (x y : ByteArray) : Bool := Op.bytesLess (ByteArray.toList x) (ByteArray.toList y)
theorem toList_inj {x y : ByteArray} (h : ByteArray.toList x = ByteArray.toList y) : x = y := by
  rw [ByteArray.toList_eq x, ByteArray.toList_eq y] at h
  obtain ⟨⟨x⟩⟩ := x
  obtain ⟨⟨y⟩⟩ := y
  exact congrArg (fun l : List UInt8 => (⟨⟨l⟩⟩ : ByteArray)) h
theorem totB : Tot ltB := ⟨fun x => totL.irr _, fun x y z => totL.trans _ _ _, fun x y h1 h2 => toList_inj (totL.tri _ _ h1 h2)⟩
/-- The order of readings. -/
def bef : T29 → T29 → Bool := lexL ltB (lexL ltI (lexL ltI ltI))
theorem totR : Tot bef := totB.lex (totI.lex (totI.lex totI))
def sgn {α : Type} (lt : α → α → Bool) (x y : α) : Int := bif lt x y then -1 else bif lt y x then 1 else 0
def firstV (l : List Int) : Int := (l.find? (· != 0)).getD 0
def cmpV (a b : T29) : Int := firstV [sgn ltB a.1 b.1, sgn ltI a.2.1 b.2.1, sgn ltI a.2.2.1 b.2.2.1, sgn ltI a.2.2.2 b.2.2.2]
theorem or_loop {L : List Int} (hL : L.length ≤ 1000000) : ∀ (n i : Nat), i + n = L.length → itr R24_0 (n + 1) (0, L, (L.length : Int), (i : Int), ()) = some (match (L.drop i).find? (· != 0) with | some y => .inr (y, ()) | none => .inl (0, ()))
  | 0, i, h => by
    rw [List.drop_eq_nil_of_le (by omega)]
    refine itr_out ?_
    unfold R24_0 Q24_0
    simp only []
    rw [bif_f (c := decide ((i : Int) < (L.length : Int))) (decide_eq_false (by omega))]
    rfl
  | n + 1, i, h => by
    have hi : i < L.length := by omega
    have hg := at_get hi
    have hro : R24_0 (0, L, (L.length : Int), (i : Int), ()) = bif L[i] != 0 then some (.inr (.inr (L[i], ()))) else some (.inl (0, L, (L.length : Int), ((i + 1 : Nat) : Int), ())) := by
      unfold R24_0 Q24_0
      simp only []
      rw [bif_t (c := decide ((i : Int) < (L.length : Int))) (decide_eq_true (by omega)), hg]
      simp only [Option.bind_some]
      rw [wsi (n := (i : Int) + 1) (by omega)]
      rfl
    rw [List.drop_eq_getElem_cons hi, List.find?_cons]
    cases hc : (L[i] != 0) with
    | true =>
      rw [hc, cond_true] at hro
      exact itr_out hro
    | false =>
      rw [hc, cond_false] at hro
      rw [itr_in hro]
      exact or_loop hL n (i + 1) (by omega)
theorem mOr {L : List Int} (hL : L.length ≤ 1000000) : N24 (L, ()) = some (firstV L, ()) := by
  have h := itrs_eq (or_loop hL L.length 0 (by omega)) rfl (by omega)
  rw [show ((0 : Nat) : Int) = 0 from rfl, List.drop_zero] at h
  unfold N24 M24 firstV
  simp only []
  rw [h]
  cases L.find? (· != 0) <;> rfl
theorem mCmpI (x y : Int) : N26 (x, y, ()) = some (sgn ltI x y, ()) ∧ N27 (x, y, ()) = some (sgn ltI x y, ()) := by
  constructor
  · unfold N26 M26 sgn ltI
    simp only []
    rw [show ∀ z, N34 (z, ()) = some (false, ()) from fun z => by unfold N34 M34; simp, show ∀ z, N34 (z, ()) = some (false, ()) from fun z => by unfold N34 M34; simp]
    simp only [Option.bind_some, cond_false]
    by_cases h1 : x < y <;> by_cases h2 : y < x <;> simp [h1, h2]
  · unfold N27 M27 sgn ltI
    simp only []
    rw [show ∀ z, N35 (z, ()) = some (false, ()) from fun z => by unfold N35 M35; simp, show ∀ z, N35 (z, ()) = some (false, ()) from fun z => by unfold N35 M35; simp]
    simp only [Option.bind_some, cond_false]
    by_cases h1 : x < y <;> by_cases h2 : y < x <;> simp [h1, h2]
theorem mCmpB (x y : ByteArray) : N25 (x, y, ()) = some (sgn ltB x y, ()) := by
  have hn : ∀ z, N33 (z, ()) = some (false, ()) := fun z => by unfold N33 M33; simp
  unfold N25 M25 sgn ltB
  simp only []
  rw [hn, hn]
  simp only [Option.bind_some, cond_false]
  generalize ByteArray.toList x = a
  generalize ByteArray.toList y = b
  cases h1 : Op.bytesLess a b with
  | true => rfl
  | false =>
    cases h2 : Op.bytesLess b a with
    | true =>
      have : (a == b) = false := by
        rw [beq_eq_false_iff_ne]
        intro e
        rw [e, totL.irr] at h2
        cases h2
      rw [this]; rfl
    | false =>
      have : (a == b) = true := by rw [beq_iff_eq]; exact totL.tri _ _ h1 h2
      rw [this]; rfl
theorem mCmp (a b : T29) : N23 (a, b, ()) = some (cmpV a b, ()) := by
  obtain ⟨a1, a2, a3, a4⟩ := a
  obtain ⟨b1, b2, b3, b4⟩ := b
  unfold N23 M23 cmpV
  simp only []
  rw [mCmpB, (mCmpI _ _).1, (mCmpI a3 b3).2, (mCmpI a4 b4).2]
  simp only [Option.bind_some]
  rw [mOr (by simp)]
  rfl
theorem sgn_lt {α : Type} {lt : α → α → Bool} (h : Tot lt) (x y : α) : decide (sgn lt x y < 0) = lt x y ∧ (sgn lt x y != 0) = (lt x y || lt y x) := by
  unfold sgn
  cases h1 : lt x y with
  | true => exact ⟨rfl, rfl⟩
  | false => cases h2 : lt y x <;> exact ⟨rfl, rfl⟩
theorem first_cons (x : Int) (l : List Int) : firstV (x :: l) = bif x != 0 then x else firstV l := by
  unfold firstV
  rw [List.find?_cons]
  cases (x != 0) <;> rfl
theorem dec_bif (c : Bool) (x y : Int) : decide ((bif c then x else y) < 0) = bif c then decide (x < 0) else decide (y < 0) := by cases c <;> rfl
theorem ltV : ltOf cmpV = bef := by
  funext a b
  obtain ⟨p1, p2⟩ := sgn_lt totB a.1 b.1
  obtain ⟨q1, q2⟩ := sgn_lt totI a.2.1 b.2.1
  obtain ⟨r1, r2⟩ := sgn_lt totI a.2.2.1 b.2.2.1
  obtain ⟨s1, s2⟩ := sgn_lt totI a.2.2.2 b.2.2.2
  unfold ltOf cmpV bef lexL
  rw [first_cons, dec_bif, p1, p2, first_cons, dec_bif, q1, q2, first_cons, dec_bif, r1, r2, first_cons, dec_bif, s1, s2]
  rw [show decide (firstV [] < 0) = false from rfl]
  cases ltB a.1 b.1 <;> cases ltB b.1 a.1 <;> cases ltI a.2.1 b.2.1 <;> cases ltI b.2.1 a.2.1 <;> cases ltI a.2.2.1 b.2.2.1 <;> cases ltI b.2.2.1 a.2.2.1 <;> cases ltI a.2.2.2 b.2.2.2 <;> cases ltI b.2.2.2 a.2.2.2 <;> rfl
theorem swoV : SWO (ltOf cmpV) := by rw [ltV]; exact totR.swo
theorem triV : ∀ x y : T29, ltOf cmpV x y = false → ltOf cmpV y x = false → x = y := by rw [ltV]; exact totR.tri
def cSortG {τ : Nat → Type} (e g : Nat) (cf : τ e → τ e → Int) : Ctr τ := ⟨.own 0 e (.val 1 (.fnc g) .nil), .own 0 e .nil, fun x => bif decide (x.1.length ≤ 4611686018427387903) then some (sortV cf x.1, ()) else none, 0⟩
theorem sortOK : Sound κ Try.prog (cSortG (e := 29) (g := 23) (cf := cmpV) (τ := τ)) 22 :=
  sort_sound (κ := κ) (e := 29) (cf := cmpV) (({ data := #[] }, 0, 0, 0) : T29) rfl rfl (by decide) s23 mCmp Try.func23 (by kernel_rfl) (code := bodyOf Try.f23) (by kernel_rfl) swoV triV Try.func22 (by kernel_rfl) (codef := bodyOf Try.f22) (by kernel_rfl) Try.sortR rfl (fun w => by kernel_rfl) (fun w => by kernel_rfl)
end Go.Proofs.Ytedjdjngfdeheaa.E
/-
  slices.Clone of readings. No condition.
-/
namespace Go.Proofs
open Go.Shelf Go.RowKit Go.Lib Go.Sort
theorem clone_nil (n c : Nat) (w : World) : Calls Try.prog 21 #[.slice none n c] w fun e w' => e = .returned (.slice none 0 0) ∧ w' = w := by
  have q22 : ∀ (w : World) (a : Option Addr) (n c n' c' : Nat), (binOp .eql 22 (.slice a n c) (.slice none n' c')).run Try.prog w = .ok (.bool a.isNone) w := fun w a n c n' c' => Lib.run_eql_slice_nil w _ _ a n c n' c' Try.underlying22
  go_enter Try.func21, Try.ntmps21
  go_wp2
  go_ret
  exact ⟨rfl, rfl⟩
theorem clone_zero (a : Addr) (c : Nat) (w : World) : Calls Try.prog 21 #[.slice (some a) 0 c] w fun e w' => e = .returned (.slice (some ⟨w.heap.size, 0, none⟩) 0 0) ∧ w' = w.alloc (.cells #[] 29) := by
  have q22 : ∀ (w : World) (a : Option Addr) (n c n' c' : Nat), (binOp .eql 22 (.slice a n c) (.slice none n' c')).run Try.prog w = .ok (.bool a.isNone) w := fun w a n c n' c' => Lib.run_eql_slice_nil w _ _ a n c n' c' Try.underlying22
  have u22 : ∀ w, Sem.run Try.prog (underlying 22) w = .ok (TypeDesc.slice 29) w := run_underlying Try.underlying22
  go_enter Try.func21, Try.ntmps21
  go_wp2
  go_ret
  exact ⟨rfl, rfl⟩
end Go.Proofs
namespace Go.Proofs.Ytedjdjngfdeheaa.E
open Go
set_option linter.unusedVariables false
def cCloneG {τ : Nat → Type} (e : Nat) (F : List (τ e) × Unit → Option (List (τ e) × Unit)) : Ctr τ := ⟨.val 0 (.sl e) .nil, .own 1000 e .nil, fun x => bif x.1.isEmpty then some ([], ()) else F x, 0⟩
theorem cloneOK : Sound κ Try.prog (cCloneG (e := 29) (F := N21) (τ := τ)) 21 :=
  clone_sound s21 Try.func21 (by kernel_rfl) (code := bodyOf Try.f21) (by kernel_rfl) clone_nil clone_zero
end Go.Proofs.Ytedjdjngfdeheaa.E
namespace Go.Proofs.Ytedjdjngfdeheaa.E
open Go
set_option linter.unusedVariables false
set_option maxRecDepth 100000
abbrev A14 : Type := (T46 × Unit)
abbrev B14 : Type := ((List T29) × Unit)
def i14 : Fr τ A14 := (.val 0 (.ref 46) .nil)
def o14 : Fr τ B14 := (.own 1000 29 .nil)
def G14 (c18 : A18 → Option B18) (c21 : (List T29 × Unit) → Option (List T29 × Unit)) (c22 : (List T29 × Unit × Unit) → Option (List T29 × Unit)) (c23 : A23 → Option B23) : Nat → Option (Ctr τ) := tabG [(18, (⟨i18, o18, c18, 0⟩ : Ctr τ)), (21, ({ (cCloneG (e := 29) (F := N21) (τ := τ)) with f := c21 } : Ctr τ)), (22, ({ (cSortG (e := 29) (g := 23) (cf := cmpV) (τ := τ)) with f := c22 } : Ctr τ)), (23, (⟨i23, o23, c23, 0⟩ : Ctr τ))]
def M14 (c18 : A18 → Option B18) (c21 : (List T29 × Unit) → Option (List T29 × Unit)) (c22 : (List T29 × Unit × Unit) → Option (List T29 × Unit)) (c23 : A23 → Option B23) : A14 → Option B14 := fun ⟨m', ()⟩ => ((c18 (m', ())).bind fun ⟨y0, ()⟩ => ((c21 (y0, ())).bind fun ⟨y1, ()⟩ => ((c22 (y1, ((), ()))).bind fun ⟨y2, ()⟩ => (some (y2, ())))))
def N14 : A14 → Option B14 := M14 N18 (cCloneG (e := 29) (F := N21) (τ := τ)).f (cSortG (e := 29) (g := 23) (cf := cmpV) (τ := τ)).f N23
def C14 : Ctr τ := ⟨i14, o14, N14, 0⟩
theorem g14 : GOK κ Try.prog (G14 N18 (cCloneG (e := 29) (F := N21) (τ := τ)).f (cSortG (e := 29) (g := 23) (cf := cmpV) (τ := τ)).f N23) := (gok_cons s18 (keeps0 rfl) (gok_cons cloneOK (keeps0 rfl) (gok_cons sortOK (keeps0 rfl) (gok_cons s23 (keeps0 rfl) gok_nil))))
theorem lall14 : ∀ Z : Zn, Z.rl = C14.o.keeps → Try.f14.ntmps ≤ Z.nt → ∀ p ∈ loops 0 (bodyOf Try.f14), ∀ C, (tabL []) p.1 = some C → LoopOK κ Try.prog Z p.2 C := fun Z h n => fun p hp => (by cases (show p ∈ ([] : List (Nat × Code)) from hp))
theorem e14 : ∀ (c18 : A18 → Option B18) (c21 : (List T29 × Unit) → Option (List T29 × Unit)) (c22 : (List T29 × Unit × Unit) → Option (List T29 × Unit)) (c23 : A23 → Option B23) x, M14 c18 c21 c22 c23 x = fnE Try.prog κ (G14 c18 c21 c22 c23) (tabL []) Try.f14 i14 o14 x := fun c18 c21 c22 c23 x => by kernel_rfl
theorem s14 : Sound κ Try.prog C14 14 := fn_sound (S := (tabL [])) (F := Try.f14) (code := bodyOf Try.f14) (by kernel_rfl) g14 Try.func14 (by kernel_rfl) (by kernel_rfl) (by kernel_rfl) lall14 (by kernel_rfl) (by kernel_rfl) fun x y h => (e14 N18 (cCloneG (e := 29) (F := N21) (τ := τ)).f (cSortG (e := 29) (g := 23) (cf := cmpV) (τ := τ)).f N23 x).symm.trans h
end Go.Proofs.Ytedjdjngfdeheaa.E
namespace Go.Proofs.Ytedjdjngfdeheaa.E
open Go
set_option linter.unusedVariables false
set_option maxRecDepth 100000
abbrev A13 : Type := ((List T29) × (List T29) × Unit)
abbrev B13 : Type := (Bool × Unit)
def i13 : Fr τ A13 := (.val 0 (.sl 29) (.val 1 (.sl 29) .nil))
def o13 : Fr τ B13 := (.val 1000 .bool .nil)
def G13 : Nat → Option (Ctr τ) := tabG []
abbrev LA13_0 : Type := ((List T29) × (List T29) × Int × Unit)
abbrev LB13_0 : Type := (Unit) ⊕ (Bool × Unit)
def li13_0 : Fr τ LA13_0 := (.val 0 (.sl 29) (.val 1 (.sl 29) (.val 5 (.int .i64) .nil)))
def lo13_0 : Ot τ LB13_0 := .alt (.exit 0) .nil (.one .ret (.val 4 .bool .nil))
def Q13_0 : LA13_0 → Option (LA13_0 ⊕ LB13_0) := fun ⟨a', ⟨b', ⟨i', ()⟩⟩⟩ => (let v0 : Int := ↑(List.length a'); bif decide (i' < v0) then ((bif decide (0 ≤ i') then a'[Int.toNat i']? else none).bind fun ⟨y1_0, ⟨y1_1, ⟨y1_2, y1_3⟩⟩⟩ => ((bif decide (0 ≤ i') then b'[Int.toNat i']? else none).bind fun ⟨y2_0, ⟨y2_1, ⟨y2_2, y2_3⟩⟩⟩ => (bif !(ByteArray.toList y1_0 == ByteArray.toList y2_0 && (y1_1 == y2_1 && (y1_2 == y2_2 && y1_3 == y2_3))) then (some (.inr (.inr (false, ())))) else (let v1 : Int := i' + 1; let v2 : Int := IntKind.wrap IntKind.i64 v1; some (.inl (a', (b', (v2, ())))))))) else (some (.inr (.inl ()))))
def R13_0 : LA13_0 → Option (LA13_0 ⊕ LB13_0) := Q13_0
def L13_0 : Lc τ := ⟨li13_0, itrs R13_0, lo13_0⟩
def M13 (l13_0 : LA13_0 → Option LB13_0) : A13 → Option B13 := fun ⟨a', ⟨b', ()⟩⟩ => (let v0 : Int := ↑(List.length a'); let v1 : Int := ↑(List.length b'); bif v0 != v1 then (some (false, ())) else ((l13_0 (a', (b', (0, ())))).bind fun y1 => (match y1 with | .inl () => (some (true, ())) | .inr ⟨y2, ()⟩ => (some (y2, ())))))
def N13 : A13 → Option B13 := M13 (itrs R13_0)
def C13 : Ctr τ := ⟨i13, o13, N13, 0⟩
theorem g13 : GOK κ Try.prog (G13) := gok_nil
theorem le13_0 : ∀ x, Q13_0 x = run Try.prog κ (G13) (tabL []) 0 (loopAt Try.f13 0) (li13_0.build x) (rnd li13_0 lo13_0) := fun x => by kernel_rfl
theorem linner13_0 : ∀ Z : Zn, Z.rl = [] → 26 ≤ Z.nt → ∀ p ∈ loops 0 (loopAt Try.f13 0), ∀ C, (tabL []) p.1 = some C → LoopOK κ Try.prog Z p.2 C := fun Z h n => fun p hp => (by cases (show p ∈ ([] : List (Nat × Code)) from hp))
theorem lk13_0 : ∀ Z : Zn, Z.rl = [] → 26 ≤ Z.nt → LoopOK κ Try.prog Z (loopAt Try.f13 0) L13_0 := fun Z h n => loop_ok (S := (tabL [])) R13_0 (by kernel_rfl) g13 (by rw [h]; exact dsts_mono n _ (by kernel_rfl)) (linner13_0 Z h n) (by kernel_rfl) (by kernel_rfl) (le13_0) itrs_rounds
theorem lall13 : ∀ Z : Zn, Z.rl = C13.o.keeps → Try.f13.ntmps ≤ Z.nt → ∀ p ∈ loops 0 (bodyOf Try.f13), ∀ C, (tabL [(0, L13_0)]) p.1 = some C → LoopOK κ Try.prog Z p.2 C := fun Z h n => all_loops [(0, loopAt Try.f13 0)] (by kernel_rfl) (all_cons (fun C hC => (Option.some.inj hC : L13_0 = C) ▸ lk13_0 Z h n) (fun _ h => by cases h))
theorem e13 : ∀ (l13_0 : LA13_0 → Option LB13_0) x, M13 l13_0 x = fnE Try.prog κ (G13) (tabL [(0, (⟨li13_0, l13_0, lo13_0⟩ : Lc τ))]) Try.f13 i13 o13 x := fun l13_0 x => by kernel_rfl
theorem s13 : Sound κ Try.prog C13 13 := fn_sound (S := (tabL [(0, L13_0)])) (F := Try.f13) (code := bodyOf Try.f13) (by kernel_rfl) g13 Try.func13 (by kernel_rfl) (by kernel_rfl) (by kernel_rfl) lall13 (by kernel_rfl) (by kernel_rfl) fun x y h => (e13 (itrs R13_0) x).symm.trans h
end Go.Proofs.Ytedjdjngfdeheaa.E
namespace Go.Proofs.Ytedjdjngfdeheaa.E
open Go
set_option linter.unusedVariables false
set_option maxRecDepth 100000
abbrev A4 : Type := ((List T29) × ByteArray × Int × Int × Int × Unit)
abbrev B4 : Type := (Bool × Unit)
def i4 : Fr τ A4 := (.val 0 (.sl 29) (.val 1 .str (.val 2 (.int .i64) (.val 3 (.int .i64) (.val 4 (.int .i64) .nil)))))
def o4 : Fr τ B4 := (.val 1000 .bool .nil)
def G4 (c7 : A7 → Option B7) (c8 : A8 → Option B8) (c9 : A9 → Option B9) (c10 : A10 → Option B10) (c14 : A14 → Option B14) (c13 : A13 → Option B13) (c11 : A11 → Option B11) : Nat → Option (Ctr τ) := tabG [(7, (⟨i7, o7, c7, 0⟩ : Ctr τ)), (8, (⟨i8, o8, c8, 0⟩ : Ctr τ)), (9, (⟨i9, o9, c9, 0⟩ : Ctr τ)), (10, (⟨i10, o10, c10, 0⟩ : Ctr τ)), (14, (⟨i14, o14, c14, 0⟩ : Ctr τ)), (13, (⟨i13, o13, c13, 0⟩ : Ctr τ)), (11, (⟨i11, o11, c11, 0⟩ : Ctr τ))]
abbrev LA4_0 : Type := ((List T29) × ByteArray × Int × Int × Int × (List T29 × Unit) × (List T29 × Unit) × Int × Unit)
abbrev LB4_0 : Type := (ByteArray × Int × Int × Int × (List T29 × Unit) × (List T29 × Unit) × Unit)
def li4_0 : Fr τ LA4_0 := (.val 0 (.sl 29) (.val 1 .str (.val 2 (.int .i64) (.val 3 (.int .i64) (.val 4 (.int .i64) (.ptr 11 none 46 (.own 29 .nil) (.ptr 12 none 46 (.own 29 .nil) (.val 13 (.int .i64) .nil))))))))
def lo4_0 : Ot τ LB4_0 := .one (.exit 0) (.val 1 .str (.val 2 (.int .i64) (.val 3 (.int .i64) (.val 4 (.int .i64) (.ptr 11 none 46 (.own 29 .nil) (.ptr 12 none 46 (.own 29 .nil) .nil))))))
def Q4_0 (c7 : A7 → Option B7) (c8 : A8 → Option B8) (c9 : A9 → Option B9) (c10 : A10 → Option B10) (c14 : A14 → Option B14) (c13 : A13 → Option B13) (c11 : A11 → Option B11) : LA4_0 → Option (LA4_0 ⊕ LB4_0) := fun ⟨list', ⟨key', ⟨dim', ⟨from', ⟨to', ⟨⟨m', ()⟩, ⟨⟨n', ()⟩, ⟨i', ()⟩⟩⟩⟩⟩⟩⟩⟩ => (let v0 : Int := ↑(List.length list'); bif decide (i' < v0) then ((bif decide (0 ≤ i') then list'[Int.toNat i']? else none).bind fun ⟨y1_0, ⟨y1_1, ⟨y1_2, y1_3⟩⟩⟩ => ((c9 ((m', ()), ((y1_0, (y1_1, (y1_2, y1_3))), ()))).bind fun ⟨y2_0, ⟨⟨y2_1, ()⟩, ()⟩⟩ => (let v1 : Int := v0 - 1; let v2 : Int := IntKind.wrap IntKind.i64 v1; let v3 : Int := v2 - i'; let v4 : Int := IntKind.wrap IntKind.i64 v3; (bif decide (0 ≤ v4) then list'[Int.toNat v4]? else none).bind fun ⟨y3_0, ⟨y3_1, ⟨y3_2, y3_3⟩⟩⟩ => ((c9 ((n', ()), ((y3_0, (y3_1, (y3_2, y3_3))), ()))).bind fun ⟨y4_0, ⟨⟨y4_1, ()⟩, ()⟩⟩ => (let v5 : Int := i' + 1; let v6 : Int := IntKind.wrap IntKind.i64 v5; some (.inl (list', (key', (dim', (from', (to', ((y2_1, ()), ((y4_1, ()), (v6, ())))))))))))))) else (some (.inr (key', (dim', (from', (to', ((m', ()), ((n', ()), ())))))))))
def R4_0 : LA4_0 → Option (LA4_0 ⊕ LB4_0) := Q4_0 N7 N8 N9 N10 N14 N13 N11
def L4_0 : Lc τ := ⟨li4_0, itrs R4_0, lo4_0⟩
def M4 (c7 : A7 → Option B7) (c8 : A8 → Option B8) (c9 : A9 → Option B9) (c10 : A10 → Option B10) (c14 : A14 → Option B14) (c13 : A13 → Option B13) (c11 : A11 → Option B11) (l4_0 : LA4_0 → Option LB4_0) : A4 → Option B4 := fun ⟨list', ⟨key', ⟨dim', ⟨from', ⟨to', ()⟩⟩⟩⟩⟩ => ((c7 ()).bind fun ⟨y0, ()⟩ => (bif !y0 then (some (false, ())) else (let v0 : Int := ↑(List.length list'); bif decide (v0 > 600) then (some (true, ())) else ((c8 ()).bind fun ⟨⟨y3, ()⟩, ()⟩ => ((c8 ()).bind fun ⟨⟨y4, ()⟩, ()⟩ => ((l4_0 (list', (key', (dim', (from', (to', ((y3, ()), ((y4, ()), (0, ()))))))))).bind fun ⟨y5_0, ⟨y5_1, ⟨y5_2, ⟨y5_3, ⟨⟨y5_4, ()⟩, ⟨⟨y5_5, ()⟩, ()⟩⟩⟩⟩⟩⟩ => ((c10 (y5_4, ())).bind fun ⟨y6, ()⟩ => ((c10 (y5_5, ())).bind fun ⟨y7, ()⟩ => (bif y6 == y7 then ((c14 (y5_4, ())).bind fun ⟨y9, ()⟩ => ((c14 (y5_5, ())).bind fun ⟨y10, ()⟩ => ((c13 (y9, (y10, ()))).bind fun ⟨y11, ()⟩ => (bif y11 then ((c11 (y5_4, (y5_0, (y5_1, (y5_2, (y5_3, ())))))).bind fun ⟨y13, ()⟩ => ((c11 (y5_5, (y5_0, (y5_1, (y5_2, (y5_3, ())))))).bind fun ⟨y14, ()⟩ => (some (y13 == y14, ())))) else (some (false, ())))))) else (some (false, ())))))))))))
def N4 : A4 → Option B4 := M4 N7 N8 N9 N10 N14 N13 N11 (itrs R4_0)
def C4 : Ctr τ := ⟨i4, o4, N4, 0⟩
theorem g4 : GOK κ Try.prog (G4 N7 N8 N9 N10 N14 N13 N11) := (gok_cons s7 (keeps0 rfl) (gok_cons s8 (keeps0 rfl) (gok_cons s9 (keeps0 rfl) (gok_cons s10 (keeps0 rfl) (gok_cons s14 (keeps0 rfl) (gok_cons s13 (keeps0 rfl) (gok_cons s11 (keeps0 rfl) gok_nil)))))))
theorem le4_0 : ∀ (c7 : A7 → Option B7) (c8 : A8 → Option B8) (c9 : A9 → Option B9) (c10 : A10 → Option B10) (c14 : A14 → Option B14) (c13 : A13 → Option B13) (c11 : A11 → Option B11) x, Q4_0 c7 c8 c9 c10 c14 c13 c11 x = run Try.prog κ (G4 c7 c8 c9 c10 c14 c13 c11) (tabL []) 0 (loopAt Try.f4 0) (li4_0.build x) (rnd li4_0 lo4_0) := fun c7 c8 c9 c10 c14 c13 c11 x => by kernel_rfl
theorem linner4_0 : ∀ Z : Zn, Z.rl = [] → 70 ≤ Z.nt → ∀ p ∈ loops 0 (loopAt Try.f4 0), ∀ C, (tabL []) p.1 = some C → LoopOK κ Try.prog Z p.2 C := fun Z h n => fun p hp => (by cases (show p ∈ ([] : List (Nat × Code)) from hp))
theorem lk4_0 : ∀ Z : Zn, Z.rl = [] → 70 ≤ Z.nt → LoopOK κ Try.prog Z (loopAt Try.f4 0) L4_0 := fun Z h n => loop_ok (S := (tabL [])) R4_0 (by kernel_rfl) g4 (by rw [h]; exact dsts_mono n _ (by kernel_rfl)) (linner4_0 Z h n) (by kernel_rfl) (by kernel_rfl) (le4_0 N7 N8 N9 N10 N14 N13 N11) itrs_rounds
theorem lall4 : ∀ Z : Zn, Z.rl = C4.o.keeps → Try.f4.ntmps ≤ Z.nt → ∀ p ∈ loops 0 (bodyOf Try.f4), ∀ C, (tabL [(0, L4_0)]) p.1 = some C → LoopOK κ Try.prog Z p.2 C := fun Z h n => all_loops [(0, loopAt Try.f4 0)] (by kernel_rfl) (all_cons (fun C hC => (Option.some.inj hC : L4_0 = C) ▸ lk4_0 Z h n) (fun _ h => by cases h))
theorem e4 : ∀ (c7 : A7 → Option B7) (c8 : A8 → Option B8) (c9 : A9 → Option B9) (c10 : A10 → Option B10) (c14 : A14 → Option B14) (c13 : A13 → Option B13) (c11 : A11 → Option B11) (l4_0 : LA4_0 → Option LB4_0) x, M4 c7 c8 c9 c10 c14 c13 c11 l4_0 x = fnE Try.prog κ (G4 c7 c8 c9 c10 c14 c13 c11) (tabL [(0, (⟨li4_0, l4_0, lo4_0⟩ : Lc τ))]) Try.f4 i4 o4 x := fun c7 c8 c9 c10 c14 c13 c11 l4_0 x => by kernel_rfl
theorem s4 : Sound κ Try.prog C4 4 := fn_sound (S := (tabL [(0, L4_0)])) (F := Try.f4) (code := bodyOf Try.f4) (by kernel_rfl) g4 Try.func4 (by kernel_rfl) (by kernel_rfl) (by kernel_rfl) lall4 (by kernel_rfl) (by kernel_rfl) fun x y h => (e4 N7 N8 N9 N10 N14 N13 N11 (itrs R4_0) x).symm.trans h
end Go.Proofs.Ytedjdjngfdeheaa.E
namespace Go.Proofs.Ytedjdjngfdeheaa.E
open Go
set_option linter.unusedVariables false
set_option maxRecDepth 100000
abbrev A5 : Type := ((List T29) × Unit)
abbrev B5 : Type := (Bool × Unit)
def i5 : Fr τ A5 := (.val 0 (.sl 29) .nil)
def o5 : Fr τ B5 := (.val 1000 .bool .nil)
def G5 (c7 : A7 → Option B7) (c8 : A8 → Option B8) (c9 : A9 → Option B9) (c14 : A14 → Option B14) (c13 : A13 → Option B13) (c10 : A10 → Option B10) : Nat → Option (Ctr τ) := tabG [(7, (⟨i7, o7, c7, 0⟩ : Ctr τ)), (8, (⟨i8, o8, c8, 0⟩ : Ctr τ)), (9, (⟨i9, o9, c9, 0⟩ : Ctr τ)), (14, (⟨i14, o14, c14, 0⟩ : Ctr τ)), (13, (⟨i13, o13, c13, 0⟩ : Ctr τ)), (10, (⟨i10, o10, c10, 0⟩ : Ctr τ))]
abbrev LA5_2 : Type := ((List T29 × Unit) × (List T29 × Unit) × (List T29 × Unit) × (List T29) × Int × Unit)
abbrev LB5_2 : Type := ((List T29 × Unit) × (List T29 × Unit) × (List T29 × Unit) × (List T29) × Unit)
def li5_2 : Fr τ LA5_2 := (.ptr 3 none 46 (.own 29 .nil) (.ptr 4 none 46 (.own 29 .nil) (.ptr 5 none 46 (.own 29 .nil) (.own 7 29 (.val 8 (.int .i64) .nil)))))
def lo5_2 : Ot τ LB5_2 := .one (.exit 2) (.ptr 3 none 46 (.own 29 .nil) (.ptr 4 none 46 (.own 29 .nil) (.ptr 5 none 46 (.own 29 .nil) (.own 7 29 .nil))))
def Q5_2 (c7 : A7 → Option B7) (c8 : A8 → Option B8) (c9 : A9 → Option B9) (c14 : A14 → Option B14) (c13 : A13 → Option B13) (c10 : A10 → Option B10) : LA5_2 → Option (LA5_2 ⊕ LB5_2) := fun ⟨⟨m', ()⟩, ⟨⟨n', ()⟩, ⟨⟨o', ()⟩, ⟨l', ⟨i', ()⟩⟩⟩⟩⟩ => (let v0 : Int := ↑(List.length l'); bif decide (i' < v0) then ((bif decide (0 ≤ i') && decide (i' < v0) then some () else none).bind fun () => ((((l'[Int.toNat i']?).bind fun ⟨y42_0, ⟨y42_1, ⟨y42_2, y42_3⟩⟩⟩ => (some (y42_0, (y42_1, (y42_2, -7))))) : (Option (ByteArray × (Int × (Int × Int))))).bind fun ⟨y2_0, ⟨y2_1, ⟨y2_2, y2_3⟩⟩⟩ => (let v1 : Int := i' + 1; let v2 : Int := IntKind.wrap IntKind.i64 v1; some (.inl ((m', ()), ((n', ()), ((o', ()), (List.set l' (Int.toNat i') (y2_0, y2_1, y2_2, y2_3), (v2, ()))))))))) else (some (.inr ((m', ()), ((n', ()), ((o', ()), (l', ())))))))
def R5_2 : LA5_2 → Option (LA5_2 ⊕ LB5_2) := Q5_2 N7 N8 N9 N14 N13 N10
def L5_2 : Lc τ := ⟨li5_2, itrs R5_2, lo5_2⟩
abbrev LA5_0 : Type := ((List T29) × (List T29 × Unit) × (List T29 × Unit) × (List T29 × Unit) × Int × Unit)
abbrev LB5_0 : Type := ((List T29 × Unit) × (List T29 × Unit) × (List T29 × Unit) × Unit) ⊕ (Bool × Unit)
def li5_0 : Fr τ LA5_0 := (.val 0 (.sl 29) (.ptr 3 none 46 (.own 29 .nil) (.ptr 4 none 46 (.own 29 .nil) (.ptr 5 none 46 (.own 29 .nil) (.val 6 (.int .i64) .nil)))))
def lo5_0 : Ot τ LB5_0 := .alt (.exit 0) (.ptr 3 none 46 (.own 29 .nil) (.ptr 4 none 46 (.own 29 .nil) (.ptr 5 none 46 (.own 29 .nil) .nil))) (.one .ret (.val 2 .bool .nil))
def Q5_0 (c7 : A7 → Option B7) (c8 : A8 → Option B8) (c9 : A9 → Option B9) (c14 : A14 → Option B14) (c13 : A13 → Option B13) (c10 : A10 → Option B10) : LA5_0 → Option (LA5_0 ⊕ LB5_0) := fun ⟨list', ⟨⟨m', ()⟩, ⟨⟨n', ()⟩, ⟨⟨o', ()⟩, ⟨i', ()⟩⟩⟩⟩⟩ => (let v0 : Int := ↑(List.length list'); bif decide (i' < v0) then (bif decide (i' < 600) then ((bif decide (0 ≤ i') then list'[Int.toNat i']? else none).bind fun ⟨y2_0, ⟨y2_1, ⟨y2_2, y2_3⟩⟩⟩ => ((c9 ((m', ()), ((y2_0, (y2_1, (y2_2, y2_3))), ()))).bind fun ⟨y3_0, ⟨⟨y3_1, ()⟩, ()⟩⟩ => ((bif decide (0 ≤ i') then list'[Int.toNat i']? else none).bind fun ⟨y4_0, ⟨y4_1, ⟨y4_2, y4_3⟩⟩⟩ => ((c9 ((n', ()), ((y4_0, (y4_1, (y4_2, y4_3))), ()))).bind fun ⟨y5_0, ⟨⟨y5_1, ()⟩, ()⟩⟩ => (bif y3_0 != y5_0 then (some (.inr (.inr (false, ())))) else (let v1 : Int := i' + 1; let v2 : Int := IntKind.wrap IntKind.i64 v1; some (.inl (list', ((y3_1, ()), ((y5_1, ()), ((o', ()), (v2, ())))))))))))) else (some (.inr (.inl ((m', ()), ((n', ()), ((o', ()), ()))))))) else (some (.inr (.inl ((m', ()), ((n', ()), ((o', ()), ())))))))
def R5_0 : LA5_0 → Option (LA5_0 ⊕ LB5_0) := Q5_0 N7 N8 N9 N14 N13 N10
def L5_0 : Lc τ := ⟨li5_0, itrs R5_0, lo5_0⟩
def M5 (c7 : A7 → Option B7) (c8 : A8 → Option B8) (c9 : A9 → Option B9) (c14 : A14 → Option B14) (c13 : A13 → Option B13) (c10 : A10 → Option B10) (l5_0 : LA5_0 → Option LB5_0) (l5_2 : LA5_2 → Option LB5_2) : A5 → Option B5 := fun ⟨list', ()⟩ => ((c7 ()).bind fun ⟨y0, ()⟩ => (bif !y0 then (some (false, ())) else ((c8 ()).bind fun ⟨⟨y2, ()⟩, ()⟩ => ((c8 ()).bind fun ⟨⟨y3, ()⟩, ()⟩ => ((c8 ()).bind fun ⟨⟨y4, ()⟩, ()⟩ => ((l5_0 (list', ((y2, ()), ((y3, ()), ((y4, ()), (0, ())))))).bind fun y5 => (match y5 with | .inl ⟨⟨y6_0, ()⟩, ⟨⟨y6_1, ()⟩, ⟨⟨y6_2, ()⟩, ()⟩⟩⟩ => ((c14 (y6_0, ())).bind fun ⟨y7, ()⟩ => ((l5_2 ((y6_0, ()), ((y6_1, ()), ((y6_2, ()), (y7, (0, ())))))).bind fun ⟨⟨y8_0, ()⟩, ⟨⟨y8_1, ()⟩, ⟨⟨y8_2, ()⟩, ⟨y8_3, ()⟩⟩⟩⟩ => ((bif decide ((List.length y8_3 + 1) * 40 ≤ 210000000000000) then some () else none).bind fun () => ((c14 (y8_0, ())).bind fun ⟨y10, ()⟩ => ((c14 (y8_1, ())).bind fun ⟨y11, ()⟩ => ((c13 (y10, (y11, ()))).bind fun ⟨y12, ()⟩ => (bif y12 then ((c10 (y8_2, ())).bind fun ⟨y14, ()⟩ => (bif y14 == 0 then ((c10 (y8_1, ())).bind fun ⟨y16, ()⟩ => (let v0 : Int := ↑(List.length (y8_3 ++ [({ data := #[109, 111, 114, 101] }, 0, 0, 0)])); let v1 : Int := y16 + 1; let v2 : Int := IntKind.wrap IntKind.i64 v1; some (v0 == v2, ()))) else (some (false, ())))) else (some (false, ()))))))))) | .inr ⟨y6, ()⟩ => (some (y6, ())))))))))
def N5 : A5 → Option B5 := M5 N7 N8 N9 N14 N13 N10 (itrs R5_0) (itrs R5_2)
def C5 : Ctr τ := ⟨i5, o5, N5, 0⟩
theorem g5 : GOK κ Try.prog (G5 N7 N8 N9 N14 N13 N10) := (gok_cons s7 (keeps0 rfl) (gok_cons s8 (keeps0 rfl) (gok_cons s9 (keeps0 rfl) (gok_cons s14 (keeps0 rfl) (gok_cons s13 (keeps0 rfl) (gok_cons s10 (keeps0 rfl) gok_nil))))))
theorem le5_2 : ∀ (c7 : A7 → Option B7) (c8 : A8 → Option B8) (c9 : A9 → Option B9) (c14 : A14 → Option B14) (c13 : A13 → Option B13) (c10 : A10 → Option B10) x, Q5_2 c7 c8 c9 c14 c13 c10 x = run Try.prog κ (G5 c7 c8 c9 c14 c13 c10) (tabL []) 2 (loopAt Try.f5 1) (li5_2.build x) (rnd li5_2 lo5_2) := fun c7 c8 c9 c14 c13 c10 x => by kernel_rfl
theorem le5_0 : ∀ (c7 : A7 → Option B7) (c8 : A8 → Option B8) (c9 : A9 → Option B9) (c14 : A14 → Option B14) (c13 : A13 → Option B13) (c10 : A10 → Option B10) x, Q5_0 c7 c8 c9 c14 c13 c10 x = run Try.prog κ (G5 c7 c8 c9 c14 c13 c10) (tabL []) 0 (loopAt Try.f5 0) (li5_0.build x) (rnd li5_0 lo5_0) := fun c7 c8 c9 c14 c13 c10 x => by kernel_rfl
theorem linner5_2 : ∀ Z : Zn, Z.rl = [] → 71 ≤ Z.nt → ∀ p ∈ loops 2 (loopAt Try.f5 1), ∀ C, (tabL []) p.1 = some C → LoopOK κ Try.prog Z p.2 C := fun Z h n => fun p hp => (by cases (show p ∈ ([] : List (Nat × Code)) from hp))
theorem lk5_2 : ∀ Z : Zn, Z.rl = [] → 71 ≤ Z.nt → LoopOK κ Try.prog Z (loopAt Try.f5 1) L5_2 := fun Z h n => loop_ok (S := (tabL [])) R5_2 (by kernel_rfl) g5 (by rw [h]; exact dsts_mono n _ (by kernel_rfl)) (linner5_2 Z h n) (by kernel_rfl) (by kernel_rfl) (le5_2 N7 N8 N9 N14 N13 N10) itrs_rounds
theorem linner5_0 : ∀ Z : Zn, Z.rl = [] → 71 ≤ Z.nt → ∀ p ∈ loops 0 (loopAt Try.f5 0), ∀ C, (tabL []) p.1 = some C → LoopOK κ Try.prog Z p.2 C := fun Z h n => fun p hp => (by cases (show p ∈ ([] : List (Nat × Code)) from hp))
theorem lk5_0 : ∀ Z : Zn, Z.rl = [] → 71 ≤ Z.nt → LoopOK κ Try.prog Z (loopAt Try.f5 0) L5_0 := fun Z h n => loop_ok (S := (tabL [])) R5_0 (by kernel_rfl) g5 (by rw [h]; exact dsts_mono n _ (by kernel_rfl)) (linner5_0 Z h n) (by kernel_rfl) (by kernel_rfl) (le5_0 N7 N8 N9 N14 N13 N10) itrs_rounds
theorem lall5 : ∀ Z : Zn, Z.rl = C5.o.keeps → Try.f5.ntmps ≤ Z.nt → ∀ p ∈ loops 0 (bodyOf Try.f5), ∀ C, (tabL [(0, L5_0), (2, L5_2)]) p.1 = some C → LoopOK κ Try.prog Z p.2 C := fun Z h n => all_loops [(0, loopAt Try.f5 0), (2, loopAt Try.f5 1)] (by kernel_rfl) (all_cons (fun C hC => (Option.some.inj hC : L5_0 = C) ▸ lk5_0 Z h n) (all_cons (fun C hC => (Option.some.inj hC : L5_2 = C) ▸ lk5_2 Z h n) (fun _ h => by cases h)))
theorem e5 : ∀ (c7 : A7 → Option B7) (c8 : A8 → Option B8) (c9 : A9 → Option B9) (c14 : A14 → Option B14) (c13 : A13 → Option B13) (c10 : A10 → Option B10) (l5_0 : LA5_0 → Option LB5_0) (l5_2 : LA5_2 → Option LB5_2) x, M5 c7 c8 c9 c14 c13 c10 l5_0 l5_2 x = fnE Try.prog κ (G5 c7 c8 c9 c14 c13 c10) (tabL [(0, (⟨li5_0, l5_0, lo5_0⟩ : Lc τ)), (2, (⟨li5_2, l5_2, lo5_2⟩ : Lc τ))]) Try.f5 i5 o5 x := fun c7 c8 c9 c14 c13 c10 l5_0 l5_2 x => by kernel_rfl
theorem s5 : Sound κ Try.prog C5 5 := fn_sound (S := (tabL [(0, L5_0), (2, L5_2)])) (F := Try.f5) (code := bodyOf Try.f5) (by kernel_rfl) g5 Try.func5 (by kernel_rfl) (by kernel_rfl) (by kernel_rfl) lall5 (by kernel_rfl) (by kernel_rfl) fun x y h => (e5 N7 N8 N9 N14 N13 N10 (itrs R5_0) (itrs R5_2) x).symm.trans h
end Go.Proofs.Ytedjdjngfdeheaa.E
namespace Go.Proofs.Ytedjdjngfdeheaa.E
open Go
set_option linter.unusedVariables false
set_option maxRecDepth 100000
abbrev A28 : Type := (T41 × (ByteArray × (Int × (Int × Int))) × Unit)
abbrev B28 : Type := (Int × Unit)
def i28 : Fr τ A28 := (.val 0 (.ref 41) (.val 1 (.pair .str (.pair (.int .i64) (.pair (.int .i64) (.int .i64)))) .nil))
def o28 : Fr τ B28 := (.val 1000 (.int .i64) .nil)
def G28 : Nat → Option (Ctr τ) := tabG []
def M28 : A28 → Option B28 := fun ⟨m', ⟨⟨r'_0, ⟨r'_1, ⟨r'_2, r'_3⟩⟩⟩, ()⟩⟩ => (let v0 : Int := ↑(ByteArray.size r'_0); bif v0 == 0 then (some (1, ())) else (bif decide (v0 > 32) then (some (1, ())) else (bif decide (r'_1 < 0) then (some (1, ())) else (bif decide (r'_1 ≥ 4) then (some (1, ())) else (bif decide (r'_2 < 0) then (some (221, ())) else (bif decide (r'_2 > 1000000) then (some (221, ())) else (bif decide (r'_3 < 0) then (some (101, ())) else (bif decide (r'_3 > 1099511627776) then (some (101, ())) else (let v1 : Int := ↑(List.length m'); bif decide (v1 ≥ 4096) then (some (3, ())) else (some (0, ())))))))))))
def N28 : A28 → Option B28 := M28
def C28 : Ctr τ := ⟨i28, o28, N28, 0⟩
theorem g28 : GOK κ Try.prog (G28) := gok_nil
theorem lall28 : ∀ Z : Zn, Z.rl = C28.o.keeps → Try.f28.ntmps ≤ Z.nt → ∀ p ∈ loops 0 (bodyOf Try.f28), ∀ C, (tabL []) p.1 = some C → LoopOK κ Try.prog Z p.2 C := fun Z h n => fun p hp => (by cases (show p ∈ ([] : List (Nat × Code)) from hp))
theorem e28 : ∀ x, M28 x = fnE Try.prog κ (G28) (tabL []) Try.f28 i28 o28 x := fun x => by kernel_rfl
theorem s28 : Sound κ Try.prog C28 28 := fn_sound (S := (tabL [])) (F := Try.f28) (code := bodyOf Try.f28) (by kernel_rfl) g28 Try.func28 (by kernel_rfl) (by kernel_rfl) (by kernel_rfl) lall28 (by kernel_rfl) (by kernel_rfl) fun x y h => (e28 x).symm.trans h
end Go.Proofs.Ytedjdjngfdeheaa.E
namespace Go.Proofs.Ytedjdjngfdeheaa.E
open Go
set_option linter.unusedVariables false
set_option maxRecDepth 100000
abbrev A29 : Type := ((ByteArray × (Int × (Int × Int))) × (ByteArray × (Int × (Int × Int))) × Unit)
abbrev B29 : Type := (Bool × Unit)
def i29 : Fr τ A29 := (.val 0 (.pair .str (.pair (.int .i64) (.pair (.int .i64) (.int .i64)))) (.val 1 (.pair .str (.pair (.int .i64) (.pair (.int .i64) (.int .i64)))) .nil))
def o29 : Fr τ B29 := (.val 1000 .bool .nil)
def G29 : Nat → Option (Ctr τ) := tabG []
def M29 : A29 → Option B29 := fun ⟨⟨a'_0, ⟨a'_1, ⟨a'_2, a'_3⟩⟩⟩, ⟨⟨b'_0, ⟨b'_1, ⟨b'_2, b'_3⟩⟩⟩, ()⟩⟩ => (bif !ByteArray.toList a'_0 == ByteArray.toList b'_0 then (some (Op.bytesLess (ByteArray.toList a'_0) (ByteArray.toList b'_0), ())) else (bif a'_1 != b'_1 then (some (decide (a'_1 < b'_1), ())) else (bif a'_2 != b'_2 then (some (decide (a'_2 < b'_2), ())) else (some (decide (a'_3 < b'_3), ())))))
def N29 : A29 → Option B29 := M29
def C29 : Ctr τ := ⟨i29, o29, N29, 0⟩
theorem g29 : GOK κ Try.prog (G29) := gok_nil
theorem lall29 : ∀ Z : Zn, Z.rl = C29.o.keeps → Try.f29.ntmps ≤ Z.nt → ∀ p ∈ loops 0 (bodyOf Try.f29), ∀ C, (tabL []) p.1 = some C → LoopOK κ Try.prog Z p.2 C := fun Z h n => fun p hp => (by cases (show p ∈ ([] : List (Nat × Code)) from hp))
theorem e29 : ∀ x, M29 x = fnE Try.prog κ (G29) (tabL []) Try.f29 i29 o29 x := fun x => by kernel_rfl
theorem s29 : Sound κ Try.prog C29 29 := fn_sound (S := (tabL [])) (F := Try.f29) (code := bodyOf Try.f29) (by kernel_rfl) g29 Try.func29 (by kernel_rfl) (by kernel_rfl) (by kernel_rfl) lall29 (by kernel_rfl) (by kernel_rfl) fun x y h => (e29 x).symm.trans h
end Go.Proofs.Ytedjdjngfdeheaa.E
namespace Go.Proofs.Ytedjdjngfdeheaa.E
open Go
set_option linter.unusedVariables false
set_option maxRecDepth 100000
abbrev A15 : Type := ((List T29 × Unit) × (ByteArray × (Int × (Int × Int))) × Unit)
abbrev B15 : Type := (Int × (List T29 × Unit) × Unit)
def i15 : Fr τ A15 := (.ptr 0 none 41 (.own 29 .nil) (.val 1 (.pair .str (.pair (.int .i64) (.pair (.int .i64) (.int .i64)))) .nil))
def o15 : Fr τ B15 := (.val 1000 (.int .i64) (.ptr 0 none 41 (.own 29 .nil) .nil))
def G15 (c28 : A28 → Option B28) (c29 : A29 → Option B29) : Nat → Option (Ctr τ) := tabG [(28, (⟨i28, o28, c28, 0⟩ : Ctr τ)), (29, (⟨i29, o29, c29, 0⟩ : Ctr τ))]
abbrev LA15_0 : Type := ((List T29 × Unit) × (ByteArray × (Int × (Int × (Int × Unit)))) × Int × Unit)
abbrev LB15_0 : Type := ((List T29 × Unit) × (ByteArray × (Int × (Int × (Int × Unit)))) × Int × Unit)
def li15_0 : Fr τ LA15_0 := (.ptr 0 none 41 (.own 29 .nil) (.ptr 3 none 29 (.val .str (.val (.int .i64) (.val (.int .i64) (.val (.int .i64) .nil)))) (.val 6 (.int .i64) .nil)))
def lo15_0 : Ot τ LB15_0 := .one (.exit 0) (.ptr 0 none 41 (.own 29 .nil) (.ptr 3 none 29 (.val .str (.val (.int .i64) (.val (.int .i64) (.val (.int .i64) .nil)))) (.val 6 (.int .i64) .nil)))
def Q15_0 (c28 : A28 → Option B28) (c29 : A29 → Option B29) : LA15_0 → Option (LA15_0 ⊕ LB15_0) := fun ⟨⟨m', ()⟩, ⟨⟨r'_0, ⟨r'_1, ⟨r'_2, ⟨r'_3, ()⟩⟩⟩⟩, ⟨at', ()⟩⟩⟩ => (let v0 : Int := ↑(List.length m'); bif decide (at' < v0) then ((bif decide (0 ≤ at') && decide (at' < v0) then some () else none).bind fun () => ((m'[Int.toNat at']?).bind fun ⟨y2_0, ⟨y2_1, ⟨y2_2, y2_3⟩⟩⟩ => ((c29 ((r'_0, (r'_1, (r'_2, r'_3))), ((y2_0, (y2_1, (y2_2, y2_3))), ()))).bind fun ⟨y3, ()⟩ => (bif !y3 then (let v1 : Int := at' + 1; let v2 : Int := IntKind.wrap IntKind.i64 v1; some (.inl ((m', ()), ((r'_0, (r'_1, (r'_2, (r'_3, ())))), (v2, ()))))) else (some (.inr ((m', ()), ((r'_0, (r'_1, (r'_2, (r'_3, ())))), (at', ()))))))))) else (some (.inr ((m', ()), ((r'_0, (r'_1, (r'_2, (r'_3, ())))), (at', ()))))))
def R15_0 : LA15_0 → Option (LA15_0 ⊕ LB15_0) := Q15_0 N28 N29
def L15_0 : Lc τ := ⟨li15_0, itrs R15_0, lo15_0⟩
def M15 (c28 : A28 → Option B28) (c29 : A29 → Option B29) (l15_0 : LA15_0 → Option LB15_0) : A15 → Option B15 := fun ⟨⟨m', ()⟩, ⟨⟨r'_0, ⟨r'_1, ⟨r'_2, r'_3⟩⟩⟩, ()⟩⟩ => ((c28 (m', ((r'_0, (r'_1, (r'_2, r'_3))), ()))).bind fun ⟨y0, ()⟩ => (bif y0 != 0 then (some (y0, ((m', ()), ()))) else ((l15_0 ((m', ()), ((r'_0, (r'_1, (r'_2, (r'_3, ())))), (0, ())))).bind fun ⟨⟨y2_0, ()⟩, ⟨⟨y2_1, ⟨y2_2, ⟨y2_3, ⟨y2_4, ()⟩⟩⟩⟩, ⟨y2_5, ()⟩⟩⟩ => (let v0 : Int := ↑(List.length y2_0); (bif decide (0 ≤ y2_5) && decide (y2_5 ≤ v0) && decide (v0 ≤ v0) then some () else none).bind fun () => ((bif decide ((0 + List.length (List.take (Int.toNat v0 - Int.toNat y2_5) (List.drop (Int.toNat y2_5) y2_0))) * 40 ≤ 210000000000000) then some () else none).bind fun () => ((bif true && decide (0 ≤ y2_5) && decide (y2_5 ≤ v0) then some () else none).bind fun () => ((bif decide ((Int.toNat y2_5 - 0 + 1) * 40 ≤ 210000000000000) && decide (Int.toNat y2_5 - 0 ≤ List.length y2_0) then some () else none).bind fun () => ((bif decide ((List.length (List.take (Int.toNat y2_5 - 0) y2_0 ++ [(y2_1, y2_2, y2_3, y2_4)]) + List.length ([] ++ List.take (Int.toNat v0 - Int.toNat y2_5) (List.drop (Int.toNat y2_5) y2_0))) * 40 ≤ 210000000000000) then some () else none).bind fun () => (some (0, ((List.take (Int.toNat y2_5 - 0) y2_0 ++ [(y2_1, y2_2, y2_3, y2_4)] ++ ([] ++ List.take (Int.toNat v0 - Int.toNat y2_5) (List.drop (Int.toNat y2_5) y2_0)), ()), ())))))))))))
def N15 : A15 → Option B15 := M15 N28 N29 (itrs R15_0)
def C15 : Ctr τ := ⟨i15, o15, N15, 0⟩
theorem g15 : GOK κ Try.prog (G15 N28 N29) := (gok_cons s28 (keeps0 rfl) (gok_cons s29 (keeps0 rfl) gok_nil))
theorem le15_0 : ∀ (c28 : A28 → Option B28) (c29 : A29 → Option B29) x, Q15_0 c28 c29 x = run Try.prog κ (G15 c28 c29) (tabL []) 0 (loopAt Try.f15 0) (li15_0.build x) (rnd li15_0 lo15_0) := fun c28 c29 x => by kernel_rfl
theorem linner15_0 : ∀ Z : Zn, Z.rl = [0] → 64 ≤ Z.nt → ∀ p ∈ loops 0 (loopAt Try.f15 0), ∀ C, (tabL []) p.1 = some C → LoopOK κ Try.prog Z p.2 C := fun Z h n => fun p hp => (by cases (show p ∈ ([] : List (Nat × Code)) from hp))
theorem lk15_0 : ∀ Z : Zn, Z.rl = [0] → 64 ≤ Z.nt → LoopOK κ Try.prog Z (loopAt Try.f15 0) L15_0 := fun Z h n => loop_ok (S := (tabL [])) R15_0 (by kernel_rfl) g15 (by rw [h]; exact dsts_mono n _ (by kernel_rfl)) (linner15_0 Z h n) (by kernel_rfl) (by kernel_rfl) (le15_0 N28 N29) itrs_rounds
theorem lall15 : ∀ Z : Zn, Z.rl = C15.o.keeps → Try.f15.ntmps ≤ Z.nt → ∀ p ∈ loops 0 (bodyOf Try.f15), ∀ C, (tabL [(0, L15_0)]) p.1 = some C → LoopOK κ Try.prog Z p.2 C := fun Z h n => all_loops [(0, loopAt Try.f15 0)] (by kernel_rfl) (all_cons (fun C hC => (Option.some.inj hC : L15_0 = C) ▸ lk15_0 Z h n) (fun _ h => by cases h))
theorem e15 : ∀ (c28 : A28 → Option B28) (c29 : A29 → Option B29) (l15_0 : LA15_0 → Option LB15_0) x, M15 c28 c29 l15_0 x = fnE Try.prog κ (G15 c28 c29) (tabL [(0, (⟨li15_0, l15_0, lo15_0⟩ : Lc τ))]) Try.f15 i15 o15 x := fun c28 c29 l15_0 x => by kernel_rfl
theorem s15 : Sound κ Try.prog C15 15 := fn_sound (S := (tabL [(0, L15_0)])) (F := Try.f15) (code := bodyOf Try.f15) (by kernel_rfl) g15 Try.func15 (by kernel_rfl) (by kernel_rfl) (by kernel_rfl) lall15 (by kernel_rfl) (by kernel_rfl) fun x y h => (e15 N28 N29 (itrs R15_0) x).symm.trans h
end Go.Proofs.Ytedjdjngfdeheaa.E
namespace Go.Proofs.Ytedjdjngfdeheaa.E
open Go
set_option linter.unusedVariables false
set_option maxRecDepth 100000
abbrev A16 : Type := (T41 × ByteArray × Int × Int × Int × Unit)
abbrev B16 : Type := (Int × Unit)
def i16 : Fr τ A16 := (.val 0 (.ref 41) (.val 1 .str (.val 2 (.int .i64) (.val 3 (.int .i64) (.val 4 (.int .i64) .nil)))))
def o16 : Fr τ B16 := (.val 1000 (.int .i64) .nil)
def G16 : Nat → Option (Ctr τ) := tabG []
abbrev LA16_0 : Type := (T41 × ByteArray × Int × Int × Int × Int × Int × Unit)
abbrev LB16_0 : Type := (Int × Unit)
def li16_0 : Fr τ LA16_0 := (.val 0 (.ref 41) (.val 1 .str (.val 2 (.int .i64) (.val 3 (.int .i64) (.val 4 (.int .i64) (.val 11 (.int .i64) (.val 12 (.int .i64) .nil)))))))
def lo16_0 : Ot τ LB16_0 := .one (.exit 0) (.val 11 (.int .i64) .nil)
def Q16_0 : LA16_0 → Option (LA16_0 ⊕ LB16_0) := fun ⟨m', ⟨key', ⟨dim', ⟨from', ⟨to', ⟨s', ⟨i', ()⟩⟩⟩⟩⟩⟩⟩ => (let v0 : Int := ↑(List.length m'); bif decide (i' < v0) then ((bif decide (0 ≤ i') then m'[Int.toNat i']? else none).bind fun ⟨y1_0, ⟨y1_1, ⟨y1_2, y1_3⟩⟩⟩ => (bif ByteArray.toList y1_0 == ByteArray.toList key' then ((bif decide (0 ≤ i') then m'[Int.toNat i']? else none).bind fun ⟨y3_0, ⟨y3_1, ⟨y3_2, y3_3⟩⟩⟩ => (bif y3_1 == dim' then ((bif decide (0 ≤ i') then m'[Int.toNat i']? else none).bind fun ⟨y5_0, ⟨y5_1, ⟨y5_2, y5_3⟩⟩⟩ => (bif decide (y5_2 ≥ from') then ((bif decide (0 ≤ i') then m'[Int.toNat i']? else none).bind fun ⟨y7_0, ⟨y7_1, ⟨y7_2, y7_3⟩⟩⟩ => (bif decide (y7_2 < to') then ((bif decide (0 ≤ i') then m'[Int.toNat i']? else none).bind fun ⟨y9_0, ⟨y9_1, ⟨y9_2, y9_3⟩⟩⟩ => (let v1 : Int := s' + y9_3; let v2 : Int := IntKind.wrap IntKind.i64 v1; let v3 : Int := i' + 1; let v4 : Int := IntKind.wrap IntKind.i64 v3; some (.inl (m', (key', (dim', (from', (to', (v2, (v4, ())))))))))) else (let v1 : Int := i' + 1; let v2 : Int := IntKind.wrap IntKind.i64 v1; some (.inl (m', (key', (dim', (from', (to', (s', (v2, ()))))))))))) else (let v1 : Int := i' + 1; let v2 : Int := IntKind.wrap IntKind.i64 v1; some (.inl (m', (key', (dim', (from', (to', (s', (v2, ()))))))))))) else (let v1 : Int := i' + 1; let v2 : Int := IntKind.wrap IntKind.i64 v1; some (.inl (m', (key', (dim', (from', (to', (s', (v2, ()))))))))))) else (let v1 : Int := i' + 1; let v2 : Int := IntKind.wrap IntKind.i64 v1; some (.inl (m', (key', (dim', (from', (to', (s', (v2, ()))))))))))) else (some (.inr (s', ()))))
def R16_0 : LA16_0 → Option (LA16_0 ⊕ LB16_0) := Q16_0
def L16_0 : Lc τ := ⟨li16_0, itrs R16_0, lo16_0⟩
def M16 (l16_0 : LA16_0 → Option LB16_0) : A16 → Option B16 := fun ⟨m', ⟨key', ⟨dim', ⟨from', ⟨to', ()⟩⟩⟩⟩⟩ => ((l16_0 (m', (key', (dim', (from', (to', (0, (0, ())))))))).bind fun ⟨y0, ()⟩ => (some (y0, ())))
def N16 : A16 → Option B16 := M16 (itrs R16_0)
def C16 : Ctr τ := ⟨i16, o16, N16, 0⟩
theorem g16 : GOK κ Try.prog (G16) := gok_nil
theorem le16_0 : ∀ x, Q16_0 x = run Try.prog κ (G16) (tabL []) 0 (loopAt Try.f16 0) (li16_0.build x) (rnd li16_0 lo16_0) := fun x => by kernel_rfl
theorem linner16_0 : ∀ Z : Zn, Z.rl = [] → 79 ≤ Z.nt → ∀ p ∈ loops 0 (loopAt Try.f16 0), ∀ C, (tabL []) p.1 = some C → LoopOK κ Try.prog Z p.2 C := fun Z h n => fun p hp => (by cases (show p ∈ ([] : List (Nat × Code)) from hp))
theorem lk16_0 : ∀ Z : Zn, Z.rl = [] → 79 ≤ Z.nt → LoopOK κ Try.prog Z (loopAt Try.f16 0) L16_0 := fun Z h n => loop_ok (S := (tabL [])) R16_0 (by kernel_rfl) g16 (by rw [h]; exact dsts_mono n _ (by kernel_rfl)) (linner16_0 Z h n) (by kernel_rfl) (by kernel_rfl) (le16_0) itrs_rounds
theorem lall16 : ∀ Z : Zn, Z.rl = C16.o.keeps → Try.f16.ntmps ≤ Z.nt → ∀ p ∈ loops 0 (bodyOf Try.f16), ∀ C, (tabL [(0, L16_0)]) p.1 = some C → LoopOK κ Try.prog Z p.2 C := fun Z h n => all_loops [(0, loopAt Try.f16 0)] (by kernel_rfl) (all_cons (fun C hC => (Option.some.inj hC : L16_0 = C) ▸ lk16_0 Z h n) (fun _ h => by cases h))
theorem e16 : ∀ (l16_0 : LA16_0 → Option LB16_0) x, M16 l16_0 x = fnE Try.prog κ (G16) (tabL [(0, (⟨li16_0, l16_0, lo16_0⟩ : Lc τ))]) Try.f16 i16 o16 x := fun l16_0 x => by kernel_rfl
theorem s16 : Sound κ Try.prog C16 16 := fn_sound (S := (tabL [(0, L16_0)])) (F := Try.f16) (code := bodyOf Try.f16) (by kernel_rfl) g16 Try.func16 (by kernel_rfl) (by kernel_rfl) (by kernel_rfl) lall16 (by kernel_rfl) (by kernel_rfl) fun x y h => (e16 (itrs R16_0) x).symm.trans h
end Go.Proofs.Ytedjdjngfdeheaa.E
namespace Go.Proofs.Ytedjdjngfdeheaa.E
open Go
set_option linter.unusedVariables false
set_option maxRecDepth 100000
abbrev A17 : Type := ((List T29 × Unit) × ByteArray × Int × Unit)
abbrev B17 : Type := (Int × (List T29 × Unit) × Unit)
def i17 : Fr τ A17 := (.ptr 0 none 41 (.own 29 .nil) (.val 1 .str (.val 2 (.int .i64) .nil)))
def o17 : Fr τ B17 := (.val 1000 (.int .i64) (.ptr 0 none 41 (.own 29 .nil) .nil))
def G17 : Nat → Option (Ctr τ) := tabG []
abbrev LA17_0 : Type := ((List T29 × Unit) × ByteArray × Int × (List T29) × Int × Unit)
abbrev LB17_0 : Type := ((List T29 × Unit) × (List T29) × Unit)
def li17_0 : Fr τ LA17_0 := (.ptr 0 none 41 (.own 29 .nil) (.val 1 .str (.val 2 (.int .i64) (.own 7 29 (.val 8 (.int .i64) .nil)))))
def lo17_0 : Ot τ LB17_0 := .one (.exit 0) (.ptr 0 none 41 (.own 29 .nil) (.own 7 29 .nil))
def Q17_0 : LA17_0 → Option (LA17_0 ⊕ LB17_0) := fun ⟨⟨m', ()⟩, ⟨key', ⟨day', ⟨l', ⟨i', ()⟩⟩⟩⟩⟩ => (let v0 : Int := ↑(List.length m'); bif decide (i' < v0) then ((bif decide (0 ≤ i') && decide (i' < v0) then some () else none).bind fun () => ((m'[Int.toNat i']?).bind fun ⟨y2_0, ⟨y2_1, ⟨y2_2, y2_3⟩⟩⟩ => (bif !ByteArray.toList y2_0 == ByteArray.toList key' then ((bif decide (0 ≤ i') && decide (i' < v0) then some () else none).bind fun () => ((m'[Int.toNat i']?).bind fun ⟨y5_0, ⟨y5_1, ⟨y5_2, y5_3⟩⟩⟩ => ((bif decide ((List.length l' + 1) * 40 ≤ 210000000000000) then some () else none).bind fun () => (let v1 : Int := i' + 1; let v2 : Int := IntKind.wrap IntKind.i64 v1; some (.inl ((m', ()), (key', (day', (l' ++ [(y5_0, y5_1, y5_2, y5_3)], (v2, ())))))))))) else ((bif decide (0 ≤ i') && decide (i' < v0) then some () else none).bind fun () => ((m'[Int.toNat i']?).bind fun ⟨y5_0, ⟨y5_1, ⟨y5_2, y5_3⟩⟩⟩ => (bif decide (y5_2 ≥ day') then ((bif decide (0 ≤ i') && decide (i' < v0) then some () else none).bind fun () => ((m'[Int.toNat i']?).bind fun ⟨y8_0, ⟨y8_1, ⟨y8_2, y8_3⟩⟩⟩ => ((bif decide ((List.length l' + 1) * 40 ≤ 210000000000000) then some () else none).bind fun () => (let v1 : Int := i' + 1; let v2 : Int := IntKind.wrap IntKind.i64 v1; some (.inl ((m', ()), (key', (day', (l' ++ [(y8_0, y8_1, y8_2, y8_3)], (v2, ())))))))))) else (let v1 : Int := i' + 1; let v2 : Int := IntKind.wrap IntKind.i64 v1; some (.inl ((m', ()), (key', (day', (l', (v2, ()))))))))))))) else (some (.inr ((m', ()), (l', ())))))
def R17_0 : LA17_0 → Option (LA17_0 ⊕ LB17_0) := Q17_0
def L17_0 : Lc τ := ⟨li17_0, itrs R17_0, lo17_0⟩
def M17 (l17_0 : LA17_0 → Option LB17_0) : A17 → Option B17 := fun ⟨⟨m', ()⟩, ⟨key', ⟨day', ()⟩⟩⟩ => ((l17_0 ((m', ()), (key', (day', ([], (0, ())))))).bind fun ⟨⟨y0_0, ()⟩, ⟨y0_1, ()⟩⟩ => (let v0 : Int := ↑(List.length y0_0); let v1 : Int := ↑(List.length y0_1); let v2 : Int := v0 - v1; let v3 : Int := IntKind.wrap IntKind.i64 v2; some (v3, ((y0_1, ()), ()))))
def N17 : A17 → Option B17 := M17 (itrs R17_0)
def C17 : Ctr τ := ⟨i17, o17, N17, 0⟩
theorem g17 : GOK κ Try.prog (G17) := gok_nil
theorem le17_0 : ∀ x, Q17_0 x = run Try.prog κ (G17) (tabL []) 0 (loopAt Try.f17 0) (li17_0.build x) (rnd li17_0 lo17_0) := fun x => by kernel_rfl
theorem linner17_0 : ∀ Z : Zn, Z.rl = [0] → 64 ≤ Z.nt → ∀ p ∈ loops 0 (loopAt Try.f17 0), ∀ C, (tabL []) p.1 = some C → LoopOK κ Try.prog Z p.2 C := fun Z h n => fun p hp => (by cases (show p ∈ ([] : List (Nat × Code)) from hp))
theorem lk17_0 : ∀ Z : Zn, Z.rl = [0] → 64 ≤ Z.nt → LoopOK κ Try.prog Z (loopAt Try.f17 0) L17_0 := fun Z h n => loop_ok (S := (tabL [])) R17_0 (by kernel_rfl) g17 (by rw [h]; exact dsts_mono n _ (by kernel_rfl)) (linner17_0 Z h n) (by kernel_rfl) (by kernel_rfl) (le17_0) itrs_rounds
theorem lall17 : ∀ Z : Zn, Z.rl = C17.o.keeps → Try.f17.ntmps ≤ Z.nt → ∀ p ∈ loops 0 (bodyOf Try.f17), ∀ C, (tabL [(0, L17_0)]) p.1 = some C → LoopOK κ Try.prog Z p.2 C := fun Z h n => all_loops [(0, loopAt Try.f17 0)] (by kernel_rfl) (all_cons (fun C hC => (Option.some.inj hC : L17_0 = C) ▸ lk17_0 Z h n) (fun _ h => by cases h))
theorem e17 : ∀ (l17_0 : LA17_0 → Option LB17_0) x, M17 l17_0 x = fnE Try.prog κ (G17) (tabL [(0, (⟨li17_0, l17_0, lo17_0⟩ : Lc τ))]) Try.f17 i17 o17 x := fun l17_0 x => by kernel_rfl
theorem s17 : Sound κ Try.prog C17 17 := fn_sound (S := (tabL [(0, L17_0)])) (F := Try.f17) (code := bodyOf Try.f17) (by kernel_rfl) g17 Try.func17 (by kernel_rfl) (by kernel_rfl) (by kernel_rfl) lall17 (by kernel_rfl) (by kernel_rfl) fun x y h => (e17 (itrs R17_0) x).symm.trans h
end Go.Proofs.Ytedjdjngfdeheaa.E
namespace Go.Proofs.Ytedjdjngfdeheaa.E
open Go
set_option linter.unusedVariables false
set_option maxRecDepth 100000
abbrev A6 : Type := ((List T43) × Unit)
abbrev B6 : Type := (Bool × Unit)
def i6 : Fr τ A6 := (.val 0 (.sl 43) .nil)
def o6 : Fr τ B6 := (.val 1000 .bool .nil)
def G6 (c7 : A7 → Option B7) (c8 : A8 → Option B8) (c9 : A9 → Option B9) (c15 : A15 → Option B15) (c11 : A11 → Option B11) (c16 : A16 → Option B16) (c12 : A12 → Option B12) (c17 : A17 → Option B17) (c10 : A10 → Option B10) (c14 : A14 → Option B14) (c13 : A13 → Option B13) : Nat → Option (Ctr τ) := tabG [(7, (⟨i7, o7, c7, 0⟩ : Ctr τ)), (8, (⟨i8, o8, c8, 0⟩ : Ctr τ)), (9, (⟨i9, o9, c9, 0⟩ : Ctr τ)), (15, (⟨i15, o15, c15, 0⟩ : Ctr τ)), (11, (⟨i11, o11, c11, 0⟩ : Ctr τ)), (16, (⟨i16, o16, c16, 0⟩ : Ctr τ)), (12, (⟨i12, o12, c12, 0⟩ : Ctr τ)), (17, (⟨i17, o17, c17, 0⟩ : Ctr τ)), (10, (⟨i10, o10, c10, 0⟩ : Ctr τ)), (14, (⟨i14, o14, c14, 0⟩ : Ctr τ)), (13, (⟨i13, o13, c13, 0⟩ : Ctr τ))]
abbrev LA6_0 : Type := ((List T43) × (List T29 × Unit) × (List T29 × Unit) × Int × Unit)
abbrev LB6_0 : Type := ((List T29 × Unit) × (List T29 × Unit) × Unit) ⊕ (Bool × Unit)
def li6_0 : Fr τ LA6_0 := (.val 0 (.sl 43) (.ptr 3 none 46 (.own 29 .nil) (.ptr 4 none 41 (.own 29 .nil) (.val 5 (.int .i64) .nil))))
def lo6_0 : Ot τ LB6_0 := .alt (.exit 0) (.ptr 3 none 46 (.own 29 .nil) (.ptr 4 none 41 (.own 29 .nil) .nil)) (.one .ret (.val 2 .bool .nil))
def Q6_0 (c7 : A7 → Option B7) (c8 : A8 → Option B8) (c9 : A9 → Option B9) (c15 : A15 → Option B15) (c11 : A11 → Option B11) (c16 : A16 → Option B16) (c12 : A12 → Option B12) (c17 : A17 → Option B17) (c10 : A10 → Option B10) (c14 : A14 → Option B14) (c13 : A13 → Option B13) : LA6_0 → Option (LA6_0 ⊕ LB6_0) := fun ⟨script', ⟨⟨m', ()⟩, ⟨⟨r', ()⟩, ⟨i', ()⟩⟩⟩⟩ => (let v0 : Int := ↑(List.length script'); bif decide (i' < v0) then (bif decide (i' < 600) then ((bif decide (0 ≤ i') then script'[Int.toNat i']? else none).bind fun ⟨y2_0, ⟨⟨y2_1, ⟨y2_2, ⟨y2_3, y2_4⟩⟩⟩, ⟨y2_5, y2_6⟩⟩⟩ => (bif y2_0 == 0 then ((c9 ((m', ()), ((y2_1, (y2_2, (y2_3, y2_4))), ()))).bind fun ⟨y4_0, ⟨⟨y4_1, ()⟩, ()⟩⟩ => ((c15 ((r', ()), ((y2_1, (y2_2, (y2_3, y2_4))), ()))).bind fun ⟨y5_0, ⟨⟨y5_1, ()⟩, ()⟩⟩ => (bif y4_0 != y5_0 then (some (.inr (.inr (false, ())))) else ((c10 (y4_1, ())).bind fun ⟨y7, ()⟩ => (let v1 : Int := ↑(List.length y5_1); bif y7 != v1 then (some (.inr (.inr (false, ())))) else (let v2 : Int := Int.tmod i' 8; bif v2 == 0 then ((c14 (y4_1, ())).bind fun ⟨y10, ()⟩ => ((c13 (y10, (y5_1, ()))).bind fun ⟨y11, ()⟩ => (bif !y11 then (some (.inr (.inr (false, ())))) else (let v3 : Int := i' + 1; let v4 : Int := IntKind.wrap IntKind.i64 v3; some (.inl (script', ((y4_1, ()), ((y5_1, ()), (v4, ()))))))))) else (let v3 : Int := i' + 1; let v4 : Int := IntKind.wrap IntKind.i64 v3; some (.inl (script', ((y4_1, ()), ((y5_1, ()), (v4, ())))))))))))) else (bif y2_0 == 1 then ((c11 (m', (y2_1, (y2_2, (y2_5, (y2_6, ())))))).bind fun ⟨y5, ()⟩ => ((c16 (r', (y2_1, (y2_2, (y2_5, (y2_6, ())))))).bind fun ⟨y6, ()⟩ => (bif y5 != y6 then (some (.inr (.inr (false, ())))) else ((c10 (m', ())).bind fun ⟨y8, ()⟩ => (let v1 : Int := ↑(List.length r'); bif y8 != v1 then (some (.inr (.inr (false, ())))) else (let v2 : Int := Int.tmod i' 8; bif v2 == 0 then ((c14 (m', ())).bind fun ⟨y11, ()⟩ => ((c13 (y11, (r', ()))).bind fun ⟨y12, ()⟩ => (bif !y12 then (some (.inr (.inr (false, ())))) else (let v3 : Int := i' + 1; let v4 : Int := IntKind.wrap IntKind.i64 v3; some (.inl (script', ((m', ()), ((r', ()), (v4, ()))))))))) else (let v3 : Int := i' + 1; let v4 : Int := IntKind.wrap IntKind.i64 v3; some (.inl (script', ((m', ()), ((r', ()), (v4, ())))))))))))) else ((c12 ((m', ()), (y2_1, (y2_5, ())))).bind fun ⟨y5_0, ⟨⟨y5_1, ()⟩, ()⟩⟩ => ((c17 ((r', ()), (y2_1, (y2_5, ())))).bind fun ⟨y6_0, ⟨⟨y6_1, ()⟩, ()⟩⟩ => (bif y5_0 != y6_0 then (some (.inr (.inr (false, ())))) else ((c10 (y5_1, ())).bind fun ⟨y8, ()⟩ => (let v1 : Int := ↑(List.length y6_1); bif y8 != v1 then (some (.inr (.inr (false, ())))) else (let v2 : Int := Int.tmod i' 8; bif v2 == 0 then ((c14 (y5_1, ())).bind fun ⟨y11, ()⟩ => ((c13 (y11, (y6_1, ()))).bind fun ⟨y12, ()⟩ => (bif !y12 then (some (.inr (.inr (false, ())))) else (let v3 : Int := i' + 1; let v4 : Int := IntKind.wrap IntKind.i64 v3; some (.inl (script', ((y5_1, ()), ((y6_1, ()), (v4, ()))))))))) else (let v3 : Int := i' + 1; let v4 : Int := IntKind.wrap IntKind.i64 v3; some (.inl (script', ((y5_1, ()), ((y6_1, ()), (v4, ()))))))))))))))) else (some (.inr (.inl ((m', ()), ((r', ()), ())))))) else (some (.inr (.inl ((m', ()), ((r', ()), ()))))))
def R6_0 : LA6_0 → Option (LA6_0 ⊕ LB6_0) := Q6_0 N7 N8 N9 N15 N11 N16 N12 N17 N10 N14 N13
def L6_0 : Lc τ := ⟨li6_0, itrs R6_0, lo6_0⟩
def M6 (c7 : A7 → Option B7) (c8 : A8 → Option B8) (c9 : A9 → Option B9) (c15 : A15 → Option B15) (c11 : A11 → Option B11) (c16 : A16 → Option B16) (c12 : A12 → Option B12) (c17 : A17 → Option B17) (c10 : A10 → Option B10) (c14 : A14 → Option B14) (c13 : A13 → Option B13) (l6_0 : LA6_0 → Option LB6_0) : A6 → Option B6 := fun ⟨script', ()⟩ => ((c7 ()).bind fun ⟨y0, ()⟩ => (bif !y0 then (some (false, ())) else ((c8 ()).bind fun ⟨⟨y2, ()⟩, ()⟩ => ((l6_0 (script', ((y2, ()), (([], ()), (0, ()))))).bind fun y3 => (match y3 with | .inl ⟨⟨y4_0, ()⟩, ⟨⟨y4_1, ()⟩, ()⟩⟩ => ((c14 (y4_0, ())).bind fun ⟨y5, ()⟩ => ((c13 (y5, (y4_1, ()))).bind fun ⟨y6, ()⟩ => (some (y6, ())))) | .inr ⟨y4, ()⟩ => (some (y4, ())))))))
def N6 : A6 → Option B6 := M6 N7 N8 N9 N15 N11 N16 N12 N17 N10 N14 N13 (itrs R6_0)
def C6 : Ctr τ := ⟨i6, o6, N6, 0⟩
theorem g6 : GOK κ Try.prog (G6 N7 N8 N9 N15 N11 N16 N12 N17 N10 N14 N13) := (gok_cons s7 (keeps0 rfl) (gok_cons s8 (keeps0 rfl) (gok_cons s9 (keeps0 rfl) (gok_cons s15 (keeps0 rfl) (gok_cons s11 (keeps0 rfl) (gok_cons s16 (keeps0 rfl) (gok_cons s12 (keeps0 rfl) (gok_cons s17 (keeps0 rfl) (gok_cons s10 (keeps0 rfl) (gok_cons s14 (keeps0 rfl) (gok_cons s13 (keeps0 rfl) gok_nil)))))))))))
theorem le6_0 : ∀ (c7 : A7 → Option B7) (c8 : A8 → Option B8) (c9 : A9 → Option B9) (c15 : A15 → Option B15) (c11 : A11 → Option B11) (c16 : A16 → Option B16) (c12 : A12 → Option B12) (c17 : A17 → Option B17) (c10 : A10 → Option B10) (c14 : A14 → Option B14) (c13 : A13 → Option B13) x, Q6_0 c7 c8 c9 c15 c11 c16 c12 c17 c10 c14 c13 x = run Try.prog κ (G6 c7 c8 c9 c15 c11 c16 c12 c17 c10 c14 c13) (tabL []) 0 (loopAt Try.f6 0) (li6_0.build x) (rnd li6_0 lo6_0) := fun c7 c8 c9 c15 c11 c16 c12 c17 c10 c14 c13 x => by kernel_rfl
theorem linner6_0 : ∀ Z : Zn, Z.rl = [] → 111 ≤ Z.nt → ∀ p ∈ loops 0 (loopAt Try.f6 0), ∀ C, (tabL []) p.1 = some C → LoopOK κ Try.prog Z p.2 C := fun Z h n => fun p hp => (by cases (show p ∈ ([] : List (Nat × Code)) from hp))
theorem lk6_0 : ∀ Z : Zn, Z.rl = [] → 111 ≤ Z.nt → LoopOK κ Try.prog Z (loopAt Try.f6 0) L6_0 := fun Z h n => loop_ok (S := (tabL [])) R6_0 (by kernel_rfl) g6 (by rw [h]; exact dsts_mono n _ (by kernel_rfl)) (linner6_0 Z h n) (by kernel_rfl) (by kernel_rfl) (le6_0 N7 N8 N9 N15 N11 N16 N12 N17 N10 N14 N13) itrs_rounds
theorem lall6 : ∀ Z : Zn, Z.rl = C6.o.keeps → Try.f6.ntmps ≤ Z.nt → ∀ p ∈ loops 0 (bodyOf Try.f6), ∀ C, (tabL [(0, L6_0)]) p.1 = some C → LoopOK κ Try.prog Z p.2 C := fun Z h n => all_loops [(0, loopAt Try.f6 0)] (by kernel_rfl) (all_cons (fun C hC => (Option.some.inj hC : L6_0 = C) ▸ lk6_0 Z h n) (fun _ h => by cases h))
theorem e6 : ∀ (c7 : A7 → Option B7) (c8 : A8 → Option B8) (c9 : A9 → Option B9) (c15 : A15 → Option B15) (c11 : A11 → Option B11) (c16 : A16 → Option B16) (c12 : A12 → Option B12) (c17 : A17 → Option B17) (c10 : A10 → Option B10) (c14 : A14 → Option B14) (c13 : A13 → Option B13) (l6_0 : LA6_0 → Option LB6_0) x, M6 c7 c8 c9 c15 c11 c16 c12 c17 c10 c14 c13 l6_0 x = fnE Try.prog κ (G6 c7 c8 c9 c15 c11 c16 c12 c17 c10 c14 c13) (tabL [(0, (⟨li6_0, l6_0, lo6_0⟩ : Lc τ))]) Try.f6 i6 o6 x := fun c7 c8 c9 c15 c11 c16 c12 c17 c10 c14 c13 l6_0 x => by kernel_rfl
theorem s6 : Sound κ Try.prog C6 6 := fn_sound (S := (tabL [(0, L6_0)])) (F := Try.f6) (code := bodyOf Try.f6) (by kernel_rfl) g6 Try.func6 (by kernel_rfl) (by kernel_rfl) (by kernel_rfl) lall6 (by kernel_rfl) (by kernel_rfl) fun x y h => (e6 N7 N8 N9 N15 N11 N16 N12 N17 N10 N14 N13 (itrs R6_0) x).symm.trans h
end Go.Proofs.Ytedjdjngfdeheaa.E
