/- What each function comes to, told as a Lean function, and that the machine does so. No condition. -/
import Derived.Test.YtedjdjngfdeheaaGE2
import Derived.Test.YtedjdjngfdeheaaProg
namespace Go.Proofs.Ytedjdjngfdeheaa.E
open Go
set_option linter.unusedVariables false
abbrev T29 : Type := (ByteArray × (Int × (Int × Int)))
abbrev T46 : Type := (List T29)
abbrev T9 : Type := ByteArray
abbrev T2 : Type := Int
abbrev T1000020 : Type := (T9 × T2)
def τ : Nat → Type := fun e => bif Nat.beq e 29 then T29 else bif Nat.beq e 46 then T46 else bif Nat.beq e 9 then T9 else bif Nat.beq e 2 then T2 else bif Nat.beq e 1000020 then T1000020 else Unit
theorem τ_else {e : Nat} (h29 : ¬ e = 29) (h46 : ¬ e = 46) (h9 : ¬ e = 9) (h2 : ¬ e = 2) (h1000020 : ¬ e = 1000020) : τ e = Unit := by simp [τ, beq_false h29, beq_false h46, beq_false h9, beq_false h2, beq_false h1000020]
def κ : (e : Nat) → K τ (τ e) := fun e => if h29 : e = 29 then h29 ▸ (show K τ (τ 29) from ((.pair .str (.pair (.int .i64) (.pair (.int .i64) (.int .i64)))) : K τ T29)) else if h46 : e = 46 then h46 ▸ (show K τ (τ 46) from ((.iso (fun x => x) (fun x => x) (fun _ => rfl) (.sl 29)) : K τ T46)) else if h9 : e = 9 then h9 ▸ (show K τ (τ 9) from (.str : K τ T9)) else if h2 : e = 2 then h2 ▸ (show K τ (τ 2) from ((.int .i64) : K τ T2)) else if h1000020 : e = 1000020 then h1000020 ▸ (show K τ (τ 1000020) from ((.pair (.ref 9) (.ref 2)) : K τ T1000020)) else cast (congrArg (K τ) (τ_else h29 h46 h9 h2 h1000020).symm) K.unit
end Go.Proofs.Ytedjdjngfdeheaa.E
namespace Go.Proofs.Ytedjdjngfdeheaa.E
open Go
set_option linter.unusedVariables false
set_option maxRecDepth 100000
abbrev A8 : Type := (Unit)
abbrev B8 : Type := ((List T29 × Unit) × Unit)
def i8 : Fr τ A8 := .nil
def o8 : Fr τ B8 := (.ptr 1000 none 46 (.own 29 .nil) .nil)
def G8 : Nat → Option (Ctr τ) := tabG []
def M8 : A8 → Option B8 := fun () => (some (([], ()), ()))
def N8 : A8 → Option B8 := M8
def C8 : Ctr τ := ⟨i8, o8, N8, 0⟩
theorem g8 : GOK κ Try.prog (G8) := gok_nil
theorem lall8 : ∀ Z : Zn, Z.rl = C8.o.keeps → Try.f8.ntmps ≤ Z.nt → ∀ p ∈ loops 0 (bodyOf Try.f8), ∀ C, (tabL []) p.1 = some C → LoopOK κ Try.prog Z p.2 C := fun Z h n => fun p hp => (by cases (show p ∈ ([] : List (Nat × Code)) from hp))
theorem e8 : ∀ x, M8 x = fnE Try.prog κ (G8) (tabL []) Try.f8 i8 o8 x := fun x => by kernel_rfl
theorem s8 : Sound κ Try.prog C8 8 := fn_sound (S := (tabL [])) (F := Try.f8) (code := bodyOf Try.f8) (by kernel_rfl) g8 Try.func8 (by kernel_rfl) (by kernel_rfl) (by kernel_rfl) lall8 (by kernel_rfl) (by kernel_rfl) fun x y h => (e8 x).symm.trans h
end Go.Proofs.Ytedjdjngfdeheaa.E
namespace Go.Proofs.Ytedjdjngfdeheaa.E
open Go
set_option linter.unusedVariables false
set_option maxRecDepth 100000
abbrev A9 : Type := ((List T29 × Unit) × (ByteArray × (Int × (Int × Int))) × Unit)
abbrev B9 : Type := (Int × (List T29 × Unit) × Unit)
def i9 : Fr τ A9 := (.ptr 0 none 46 (.own 29 .nil) (.val 1 (.pair .str (.pair (.int .i64) (.pair (.int .i64) (.int .i64)))) .nil))
def o9 : Fr τ B9 := (.val 1000 (.int .i64) (.ptr 0 none 46 (.own 29 .nil) .nil))
def G9 : Nat → Option (Ctr τ) := tabG []
def M9 : A9 → Option B9 := fun ⟨⟨m', ()⟩, ⟨⟨r'_0, ⟨r'_1, ⟨r'_2, r'_3⟩⟩⟩, ()⟩⟩ => (let v0 : Int := ↑(ByteArray.size r'_0); bif decide (v0 < 1) then (some (1, ((m', ()), ()))) else (bif decide (v0 > 32) then (some (1, ((m', ()), ()))) else (bif decide (r'_1 < 0) then (some (1, ((m', ()), ()))) else (bif decide (r'_1 ≥ 4) then (some (1, ((m', ()), ()))) else (bif decide (r'_2 < 0) then (some (221, ((m', ()), ()))) else (bif decide (r'_2 > 1000000) then (some (221, ((m', ()), ()))) else (bif decide (r'_3 < 0) then (some (101, ((m', ()), ()))) else (bif decide (r'_3 > 1099511627776) then (some (101, ((m', ()), ()))) else (let v1 : Int := ↑(List.length m'); bif decide (v1 ≥ 4096) then (some (3, ((m', ()), ()))) else ((bif decide ((List.length m' + 1) * 40 ≤ 210000000000000) then some () else none).bind fun () => (some (0, ((m' ++ [(r'_0, r'_1, r'_2, r'_3)], ()), ())))))))))))))
def N9 : A9 → Option B9 := M9
def C9 : Ctr τ := ⟨i9, o9, N9, 0⟩
theorem g9 : GOK κ Try.prog (G9) := gok_nil
theorem lall9 : ∀ Z : Zn, Z.rl = C9.o.keeps → Try.f9.ntmps ≤ Z.nt → ∀ p ∈ loops 0 (bodyOf Try.f9), ∀ C, (tabL []) p.1 = some C → LoopOK κ Try.prog Z p.2 C := fun Z h n => fun p hp => (by cases (show p ∈ ([] : List (Nat × Code)) from hp))
theorem e9 : ∀ x, M9 x = fnE Try.prog κ (G9) (tabL []) Try.f9 i9 o9 x := fun x => by kernel_rfl
theorem s9 : Sound κ Try.prog C9 9 := fn_sound (S := (tabL [])) (F := Try.f9) (code := bodyOf Try.f9) (by kernel_rfl) g9 Try.func9 (by kernel_rfl) (by kernel_rfl) (by kernel_rfl) lall9 (by kernel_rfl) (by kernel_rfl) fun x y h => (e9 x).symm.trans h
end Go.Proofs.Ytedjdjngfdeheaa.E
namespace Go.Proofs.Ytedjdjngfdeheaa.E
open Go
set_option linter.unusedVariables false
set_option maxRecDepth 100000
abbrev A18 : Type := (T46 × Unit)
abbrev B18 : Type := ((List T29) × Unit)
def i18 : Fr τ A18 := (.val 0 (.ref 46) .nil)
def o18 : Fr τ B18 := (.val 1000 (.sl 29) .nil)
def G18 : Nat → Option (Ctr τ) := tabG []
def M18 : A18 → Option B18 := fun ⟨m', ()⟩ => (some (m', ()))
def N18 : A18 → Option B18 := M18
def C18 : Ctr τ := ⟨i18, o18, N18, 0⟩
theorem g18 : GOK κ Try.prog (G18) := gok_nil
theorem lall18 : ∀ Z : Zn, Z.rl = C18.o.keeps → Try.f18.ntmps ≤ Z.nt → ∀ p ∈ loops 0 (bodyOf Try.f18), ∀ C, (tabL []) p.1 = some C → LoopOK κ Try.prog Z p.2 C := fun Z h n => fun p hp => (by cases (show p ∈ ([] : List (Nat × Code)) from hp))
theorem e18 : ∀ x, M18 x = fnE Try.prog κ (G18) (tabL []) Try.f18 i18 o18 x := fun x => by kernel_rfl
theorem s18 : Sound κ Try.prog C18 18 := fn_sound (S := (tabL [])) (F := Try.f18) (code := bodyOf Try.f18) (by kernel_rfl) g18 Try.func18 (by kernel_rfl) (by kernel_rfl) (by kernel_rfl) lall18 (by kernel_rfl) (by kernel_rfl) fun x y h => (e18 x).symm.trans h
end Go.Proofs.Ytedjdjngfdeheaa.E
namespace Go.Proofs.Ytedjdjngfdeheaa.E
open Go
set_option linter.unusedVariables false
set_option maxRecDepth 100000
abbrev A11 : Type := (T46 × ByteArray × Int × Int × Int × Unit)
abbrev B11 : Type := (Int × Unit)
def i11 : Fr τ A11 := (.val 0 (.ref 46) (.val 1 .str (.val 2 (.int .i64) (.val 3 (.int .i64) (.val 4 (.int .i64) .nil)))))
def o11 : Fr τ B11 := (.val 1000 (.int .i64) .nil)
def G11 (c18 : A18 → Option B18) : Nat → Option (Ctr τ) := tabG [(18, (⟨i18, o18, c18, 0⟩ : Ctr τ))]
abbrev LA11_0 : Type := (ByteArray × Int × Int × Int × Int × (List T29) × Int × Int × Unit)
abbrev LB11_0 : Type := (Int × Unit)
def li11_0 : Fr τ LA11_0 := (.val 1 .str (.val 2 (.int .i64) (.val 3 (.int .i64) (.val 4 (.int .i64) (.val 11 (.int .i64) (.val 15 (.sl 29) (.val 16 (.int .i64) (.val 17 (.int .i64) .nil))))))))
def lo11_0 : Ot τ LB11_0 := .one (.exit 0) (.val 11 (.int .i64) .nil)
def Q11_0 (c18 : A18 → Option B18) : LA11_0 → Option (LA11_0 ⊕ LB11_0) := fun ⟨key', ⟨dim', ⟨from', ⟨to', ⟨sum', ⟨t15', ⟨t16', ⟨t17', ()⟩⟩⟩⟩⟩⟩⟩⟩ => (bif decide (t17' < t16') then ((bif decide (0 ≤ t17') then t15'[Int.toNat t17']? else none).bind fun ⟨y1_0, ⟨y1_1, ⟨y1_2, y1_3⟩⟩⟩ => (bif ByteArray.toList y1_0 == ByteArray.toList key' then (bif y1_1 == dim' then (bif decide (y1_2 ≥ from') then (bif decide (y1_2 < to') then (let v0 : Int := sum' + y1_3; let v1 : Int := IntKind.wrap IntKind.i64 v0; let v2 : Int := t17' + 1; let v3 : Int := IntKind.wrap IntKind.i64 v2; some (.inl (key', (dim', (from', (to', (v1, (t15', (t16', (v3, ())))))))))) else (let v0 : Int := t17' + 1; let v1 : Int := IntKind.wrap IntKind.i64 v0; some (.inl (key', (dim', (from', (to', (sum', (t15', (t16', (v1, ()))))))))))) else (let v0 : Int := t17' + 1; let v1 : Int := IntKind.wrap IntKind.i64 v0; some (.inl (key', (dim', (from', (to', (sum', (t15', (t16', (v1, ()))))))))))) else (let v0 : Int := t17' + 1; let v1 : Int := IntKind.wrap IntKind.i64 v0; some (.inl (key', (dim', (from', (to', (sum', (t15', (t16', (v1, ()))))))))))) else (let v0 : Int := t17' + 1; let v1 : Int := IntKind.wrap IntKind.i64 v0; some (.inl (key', (dim', (from', (to', (sum', (t15', (t16', (v1, ())))))))))))) else (some (.inr (sum', ()))))
def R11_0 : LA11_0 → Option (LA11_0 ⊕ LB11_0) := Q11_0 N18
def L11_0 : Lc τ := ⟨li11_0, itrs R11_0, lo11_0⟩
def M11 (c18 : A18 → Option B18) (l11_0 : LA11_0 → Option LB11_0) : A11 → Option B11 := fun ⟨m', ⟨key', ⟨dim', ⟨from', ⟨to', ()⟩⟩⟩⟩⟩ => ((c18 (m', ())).bind fun ⟨y0, ()⟩ => (let v0 : Int := ↑(List.length y0); (l11_0 (key', (dim', (from', (to', (0, (y0, (v0, (0, ()))))))))).bind fun ⟨y1, ()⟩ => (some (y1, ()))))
def N11 : A11 → Option B11 := M11 N18 (itrs R11_0)
def C11 : Ctr τ := ⟨i11, o11, N11, 0⟩
theorem g11 : GOK κ Try.prog (G11 N18) := (gok_cons s18 (keeps0 rfl) gok_nil)
theorem le11_0 : ∀ (c18 : A18 → Option B18) x, Q11_0 c18 x = run Try.prog κ (G11 c18) (tabL []) 0 (loopAt Try.f11 0) (li11_0.build x) (rnd li11_0 lo11_0) := fun c18 x => by kernel_rfl
theorem linner11_0 : ∀ Z : Zn, Z.rl = [] → 49 ≤ Z.nt → ∀ p ∈ loops 0 (loopAt Try.f11 0), ∀ C, (tabL []) p.1 = some C → LoopOK κ Try.prog Z p.2 C := fun Z h n => fun p hp => (by cases (show p ∈ ([] : List (Nat × Code)) from hp))
theorem lk11_0 : ∀ Z : Zn, Z.rl = [] → 49 ≤ Z.nt → LoopOK κ Try.prog Z (loopAt Try.f11 0) L11_0 := fun Z h n => loop_ok (S := (tabL [])) R11_0 (by kernel_rfl) g11 (by rw [h]; exact dsts_mono n _ (by kernel_rfl)) (linner11_0 Z h n) (by kernel_rfl) (by kernel_rfl) (le11_0 N18) itrs_rounds
theorem lall11 : ∀ Z : Zn, Z.rl = C11.o.keeps → Try.f11.ntmps ≤ Z.nt → ∀ p ∈ loops 0 (bodyOf Try.f11), ∀ C, (tabL [(0, L11_0)]) p.1 = some C → LoopOK κ Try.prog Z p.2 C := fun Z h n => all_loops [(0, loopAt Try.f11 0)] (by kernel_rfl) (all_cons (fun C hC => (Option.some.inj hC : L11_0 = C) ▸ lk11_0 Z h n) (fun _ h => by cases h))
theorem e11 : ∀ (c18 : A18 → Option B18) (l11_0 : LA11_0 → Option LB11_0) x, M11 c18 l11_0 x = fnE Try.prog κ (G11 c18) (tabL [(0, (⟨li11_0, l11_0, lo11_0⟩ : Lc τ))]) Try.f11 i11 o11 x := fun c18 l11_0 x => by kernel_rfl
theorem s11 : Sound κ Try.prog C11 11 := fn_sound (S := (tabL [(0, L11_0)])) (F := Try.f11) (code := bodyOf Try.f11) (by kernel_rfl) g11 Try.func11 (by kernel_rfl) (by kernel_rfl) (by kernel_rfl) lall11 (by kernel_rfl) (by kernel_rfl) fun x y h => (e11 N18 (itrs R11_0) x).symm.trans h
end Go.Proofs.Ytedjdjngfdeheaa.E
namespace Go.Proofs.Ytedjdjngfdeheaa.E
open Go
set_option linter.unusedVariables false
set_option maxRecDepth 100000
abbrev A10 : Type := (T46 × Unit)
abbrev B10 : Type := (Int × Unit)
def i10 : Fr τ A10 := (.val 0 (.ref 46) .nil)
def o10 : Fr τ B10 := (.val 1000 (.int .i64) .nil)
def G10 (c18 : A18 → Option B18) : Nat → Option (Ctr τ) := tabG [(18, (⟨i18, o18, c18, 0⟩ : Ctr τ))]
def M10 (c18 : A18 → Option B18) : A10 → Option B10 := fun ⟨m', ()⟩ => ((c18 (m', ())).bind fun ⟨y0, ()⟩ => (let v0 : Int := ↑(List.length y0); some (v0, ())))
def N10 : A10 → Option B10 := M10 N18
def C10 : Ctr τ := ⟨i10, o10, N10, 0⟩
theorem g10 : GOK κ Try.prog (G10 N18) := (gok_cons s18 (keeps0 rfl) gok_nil)
theorem lall10 : ∀ Z : Zn, Z.rl = C10.o.keeps → Try.f10.ntmps ≤ Z.nt → ∀ p ∈ loops 0 (bodyOf Try.f10), ∀ C, (tabL []) p.1 = some C → LoopOK κ Try.prog Z p.2 C := fun Z h n => fun p hp => (by cases (show p ∈ ([] : List (Nat × Code)) from hp))
theorem e10 : ∀ (c18 : A18 → Option B18) x, M10 c18 x = fnE Try.prog κ (G10 c18) (tabL []) Try.f10 i10 o10 x := fun c18 x => by kernel_rfl
theorem s10 : Sound κ Try.prog C10 10 := fn_sound (S := (tabL [])) (F := Try.f10) (code := bodyOf Try.f10) (by kernel_rfl) g10 Try.func10 (by kernel_rfl) (by kernel_rfl) (by kernel_rfl) lall10 (by kernel_rfl) (by kernel_rfl) fun x y h => (e10 N18 x).symm.trans h
end Go.Proofs.Ytedjdjngfdeheaa.E
namespace Go.Proofs.Ytedjdjngfdeheaa.E
open Go
set_option linter.unusedVariables false
set_option maxRecDepth 100000
abbrev A7 : Type := (Unit)
abbrev B7 : Type := (Bool × Unit)
def i7 : Fr τ A7 := .nil
def o7 : Fr τ B7 := (.val 1000 .bool .nil)
def G7 (c8 : A8 → Option B8) (c9 : A9 → Option B9) (c11 : A11 → Option B11) (c10 : A10 → Option B10) : Nat → Option (Ctr τ) := tabG [(8, (⟨i8, o8, c8, 0⟩ : Ctr τ)), (9, (⟨i9, o9, c9, 0⟩ : Ctr τ)), (11, (⟨i11, o11, c11, 0⟩ : Ctr τ)), (10, (⟨i10, o10, c10, 0⟩ : Ctr τ))]
def M7 (c8 : A8 → Option B8) (c9 : A9 → Option B9) (c11 : A11 → Option B11) (c10 : A10 → Option B10) : A7 → Option B7 := fun () => ((c8 ()).bind fun ⟨⟨y0, ()⟩, ()⟩ => ((c9 ((y0, ()), (({ data := #[97] }, (0, (5, 10))), ()))).bind fun ⟨y1_0, ⟨⟨y1_1, ()⟩, ()⟩⟩ => ((c9 ((y1_1, ()), (({ data := #[97] }, (0, (3, 4))), ()))).bind fun ⟨y2_0, ⟨⟨y2_1, ()⟩, ()⟩⟩ => ((c9 ((y2_1, ()), (({ data := #[] }, (0, (3, 0))), ()))).bind fun ⟨y3_0, ⟨⟨y3_1, ()⟩, ()⟩⟩ => (bif y1_0 == 0 then (bif y2_0 == 0 then (bif y3_0 == 1 then ((c11 (y3_1, ({ data := #[97] }, (0, (0, (6, ())))))).bind fun ⟨y7, ()⟩ => (bif y7 == 14 then ((c11 (y3_1, ({ data := #[97] }, (0, (3, (5, ())))))).bind fun ⟨y9, ()⟩ => (bif y9 == 4 then ((c10 (y3_1, ())).bind fun ⟨y11, ()⟩ => (some (y11 == 2, ()))) else (some (false, ())))) else (some (false, ())))) else (some (false, ()))) else (some (false, ()))) else (some (false, ())))))))
def N7 : A7 → Option B7 := M7 N8 N9 N11 N10
def C7 : Ctr τ := ⟨i7, o7, N7, 0⟩
theorem g7 : GOK κ Try.prog (G7 N8 N9 N11 N10) := (gok_cons s8 (keeps0 rfl) (gok_cons s9 (keeps0 rfl) (gok_cons s11 (keeps0 rfl) (gok_cons s10 (keeps0 rfl) gok_nil))))
theorem lall7 : ∀ Z : Zn, Z.rl = C7.o.keeps → Try.f7.ntmps ≤ Z.nt → ∀ p ∈ loops 0 (bodyOf Try.f7), ∀ C, (tabL []) p.1 = some C → LoopOK κ Try.prog Z p.2 C := fun Z h n => fun p hp => (by cases (show p ∈ ([] : List (Nat × Code)) from hp))
theorem e7 : ∀ (c8 : A8 → Option B8) (c9 : A9 → Option B9) (c11 : A11 → Option B11) (c10 : A10 → Option B10) x, M7 c8 c9 c11 c10 x = fnE Try.prog κ (G7 c8 c9 c11 c10) (tabL []) Try.f7 i7 o7 x := fun c8 c9 c11 c10 x => by kernel_rfl
theorem s7 : Sound κ Try.prog C7 7 := fn_sound (S := (tabL [])) (F := Try.f7) (code := bodyOf Try.f7) (by kernel_rfl) g7 Try.func7 (by kernel_rfl) (by kernel_rfl) (by kernel_rfl) lall7 (by kernel_rfl) (by kernel_rfl) fun x y h => (e7 N8 N9 N11 N10 x).symm.trans h
end Go.Proofs.Ytedjdjngfdeheaa.E
namespace Go.Proofs.Ytedjdjngfdeheaa.E
open Go
set_option linter.unusedVariables false
set_option maxRecDepth 100000
abbrev A20 : Type := ((ByteArray × (Int × (Int × Int))) × T9 × T2 × Unit)
abbrev B20 : Type := (Bool × Unit)
def i20 : Fr τ A20 := (.val 0 (.pair .str (.pair (.int .i64) (.pair (.int .i64) (.int .i64)))) (.val 1 (.ref 9) (.val 2 (.ref 2) .nil)))
def o20 : Fr τ B20 := (.val 1000 .bool .nil)
def G20 : Nat → Option (Ctr τ) := tabG []
def M20 : A20 → Option B20 := fun ⟨⟨r'_0, ⟨r'_1, ⟨r'_2, r'_3⟩⟩⟩, ⟨t1', ⟨t2', ()⟩⟩⟩ => (bif ByteArray.toList r'_0 == ByteArray.toList t1' then (some (decide (r'_2 < t2'), ())) else (some (false, ())))
def N20 : A20 → Option B20 := M20
def C20 : Ctr τ := ⟨i20, o20, N20, 0⟩
theorem g20 : GOK κ Try.prog (G20) := gok_nil
theorem lall20 : ∀ Z : Zn, Z.rl = C20.o.keeps → Try.f20.ntmps ≤ Z.nt → ∀ p ∈ loops 0 (bodyOf Try.f20), ∀ C, (tabL []) p.1 = some C → LoopOK κ Try.prog Z p.2 C := fun Z h n => fun p hp => (by cases (show p ∈ ([] : List (Nat × Code)) from hp))
theorem e20 : ∀ x, M20 x = fnE Try.prog κ (G20) (tabL []) Try.f20 i20 o20 x := fun x => by kernel_rfl
theorem s20 : Sound κ Try.prog C20 20 := fn_sound (S := (tabL [])) (F := Try.f20) (code := bodyOf Try.f20) (by kernel_rfl) g20 Try.func20 (by kernel_rfl) (by kernel_rfl) (by kernel_rfl) lall20 (by kernel_rfl) (by kernel_rfl) fun x y h => (e20 x).symm.trans h
end Go.Proofs.Ytedjdjngfdeheaa.E
namespace Go.Proofs.Ytedjdjngfdeheaa.E
open Go
set_option linter.unusedVariables false
set_option maxRecDepth 100000
abbrev A30 : Type := ((List T29) × T1000020 × Unit)
abbrev B30 : Type := (Int × Unit)
def i30 : Fr τ A30 := (.val 0 (.sl 29) (.val 1 (.clo 20 1000020) .nil))
def o30 : Fr τ B30 := (.val 1000 (.int .i64) .nil)
def G30 (c20 : A20 → Option B20) : Nat → Option (Ctr τ) := tabG [(20, (⟨i20, o20, c20, 0⟩ : Ctr τ))]
abbrev LA30_0 : Type := ((List T29) × T1000020 × Int × Int × Unit)
abbrev LB30_0 : Type := (Unit) ⊕ (Int × Unit)
def li30_0 : Fr τ LA30_0 := (.val 0 (.sl 29) (.val 1 (.clo 20 1000020) (.val 7 (.int .i64) (.val 8 (.int .i64) .nil))))
def lo30_0 : Ot τ LB30_0 := .alt (.exit 0) .nil (.one .ret (.val 4 (.int .i64) .nil))
def Q30_0 (c20 : A20 → Option B20) : LA30_0 → Option (LA30_0 ⊕ LB30_0) := fun ⟨s', ⟨⟨f'_0, f'_1⟩, ⟨t7', ⟨t8', ()⟩⟩⟩⟩ => (bif decide (t8' < t7') then ((bif decide (0 ≤ t8') then s'[Int.toNat t8']? else none).bind fun ⟨y1_0, ⟨y1_1, ⟨y1_2, y1_3⟩⟩⟩ => ((c20 ((y1_0, (y1_1, (y1_2, y1_3))), (f'_0, (f'_1, ())))).bind fun ⟨y2, ()⟩ => (bif y2 then (some (.inr (.inr (t8', ())))) else (let v0 : Int := t8' + 1; let v1 : Int := IntKind.wrap IntKind.i64 v0; some (.inl (s', ((f'_0, f'_1), (t7', (v1, ()))))))))) else (some (.inr (.inl ()))))
def R30_0 : LA30_0 → Option (LA30_0 ⊕ LB30_0) := Q30_0 N20
def L30_0 : Lc τ := ⟨li30_0, itrs R30_0, lo30_0⟩
def M30 (c20 : A20 → Option B20) (l30_0 : LA30_0 → Option LB30_0) : A30 → Option B30 := fun ⟨s', ⟨⟨f'_0, f'_1⟩, ()⟩⟩ => (let v0 : Int := ↑(List.length s'); (l30_0 (s', ((f'_0, f'_1), (v0, (0, ()))))).bind fun y0 => (match y0 with | .inl () => (some (-1, ())) | .inr ⟨y1, ()⟩ => (some (y1, ()))))
def N30 : A30 → Option B30 := M30 N20 (itrs R30_0)
def C30 : Ctr τ := ⟨i30, o30, N30, 0⟩
theorem g30 : GOK κ Try.prog (G30 N20) := (gok_cons s20 (keeps0 rfl) gok_nil)
theorem le30_0 : ∀ (c20 : A20 → Option B20) x, Q30_0 c20 x = run Try.prog κ (G30 c20) (tabL []) 0 (loopAt Try.f30 0) (li30_0.build x) (rnd li30_0 lo30_0) := fun c20 x => by kernel_rfl
theorem linner30_0 : ∀ Z : Zn, Z.rl = [] → 19 ≤ Z.nt → ∀ p ∈ loops 0 (loopAt Try.f30 0), ∀ C, (tabL []) p.1 = some C → LoopOK κ Try.prog Z p.2 C := fun Z h n => fun p hp => (by cases (show p ∈ ([] : List (Nat × Code)) from hp))
theorem lk30_0 : ∀ Z : Zn, Z.rl = [] → 19 ≤ Z.nt → LoopOK κ Try.prog Z (loopAt Try.f30 0) L30_0 := fun Z h n => loop_ok (S := (tabL [])) R30_0 (by kernel_rfl) g30 (by rw [h]; exact dsts_mono n _ (by kernel_rfl)) (linner30_0 Z h n) (by kernel_rfl) (by kernel_rfl) (le30_0 N20) itrs_rounds
theorem lall30 : ∀ Z : Zn, Z.rl = C30.o.keeps → Try.f30.ntmps ≤ Z.nt → ∀ p ∈ loops 0 (bodyOf Try.f30), ∀ C, (tabL [(0, L30_0)]) p.1 = some C → LoopOK κ Try.prog Z p.2 C := fun Z h n => all_loops [(0, loopAt Try.f30 0)] (by kernel_rfl) (all_cons (fun C hC => (Option.some.inj hC : L30_0 = C) ▸ lk30_0 Z h n) (fun _ h => by cases h))
theorem e30 : ∀ (c20 : A20 → Option B20) (l30_0 : LA30_0 → Option LB30_0) x, M30 c20 l30_0 x = fnE Try.prog κ (G30 c20) (tabL [(0, (⟨li30_0, l30_0, lo30_0⟩ : Lc τ))]) Try.f30 i30 o30 x := fun c20 l30_0 x => by kernel_rfl
theorem s30 : Sound κ Try.prog C30 30 := fn_sound (S := (tabL [(0, L30_0)])) (F := Try.f30) (code := bodyOf Try.f30) (by kernel_rfl) g30 Try.func30 (by kernel_rfl) (by kernel_rfl) (by kernel_rfl) lall30 (by kernel_rfl) (by kernel_rfl) fun x y h => (e30 N20 (itrs R30_0) x).symm.trans h
end Go.Proofs.Ytedjdjngfdeheaa.E
namespace Go.Proofs.Ytedjdjngfdeheaa.E
open Go
set_option linter.unusedVariables false
set_option maxRecDepth 100000
abbrev A19 : Type := ((List T29) × T1000020 × Unit)
abbrev B19 : Type := ((List T29) × Unit)
def i19 : Fr τ A19 := (.own 0 29 (.val 1 (.clo 20 1000020) .nil))
def o19 : Fr τ B19 := (.own 1000 29 .nil)
def G19 (c30 : A30 → Option B30) (c20 : A20 → Option B20) : Nat → Option (Ctr τ) := tabG [(30, (⟨i30, o30, c30, 0⟩ : Ctr τ)), (20, (⟨i20, o20, c20, 0⟩ : Ctr τ))]
abbrev LA19_0 : Type := ((List T29) × T1000020 × Int × Int × Unit)
abbrev LB19_0 : Type := ((List T29) × Int × Unit)
def li19_0 : Fr τ LA19_0 := (.own 0 29 (.val 1 (.clo 20 1000020) (.val 5 (.int .i64) (.val 6 (.int .i64) .nil))))
def lo19_0 : Ot τ LB19_0 := .one (.exit 0) (.own 0 29 (.val 5 (.int .i64) .nil))
def Q19_0 (c30 : A30 → Option B30) (c20 : A20 → Option B20) : LA19_0 → Option (LA19_0 ⊕ LB19_0) := fun ⟨s', ⟨⟨del'_0, del'_1⟩, ⟨i', ⟨j', ()⟩⟩⟩⟩ => (let v0 : Int := ↑(List.length s'); bif decide (j' < v0) then ((bif decide (0 ≤ j') && decide (j' < v0) then some () else none).bind fun () => ((s'[Int.toNat j']?).bind fun ⟨y2_0, ⟨y2_1, ⟨y2_2, y2_3⟩⟩⟩ => ((c20 ((y2_0, (y2_1, (y2_2, y2_3))), (del'_0, (del'_1, ())))).bind fun ⟨y3, ()⟩ => (bif !y3 then ((bif decide (0 ≤ i') && decide (i' < v0) then some () else none).bind fun () => ((((s'[Int.toNat i']?).bind fun ⟨y46_0, ⟨y46_1, ⟨y46_2, y46_3⟩⟩⟩ => (some (y2_0, (y2_1, (y2_2, y2_3))))) : (Option (ByteArray × (Int × (Int × Int))))).bind fun ⟨y6_0, ⟨y6_1, ⟨y6_2, y6_3⟩⟩⟩ => (let v1 : Int := i' + 1; let v2 : Int := IntKind.wrap IntKind.i64 v1; let v3 : Int := j' + 1; let v4 : Int := IntKind.wrap IntKind.i64 v3; some (.inl (List.set s' (Int.toNat i') (y6_0, y6_1, y6_2, y6_3), ((del'_0, del'_1), (v2, (v4, ())))))))) else (let v1 : Int := j' + 1; let v2 : Int := IntKind.wrap IntKind.i64 v1; some (.inl (s', ((del'_0, del'_1), (i', (v2, ())))))))))) else (some (.inr (s', (i', ())))))
def R19_0 : LA19_0 → Option (LA19_0 ⊕ LB19_0) := Q19_0 N30 N20
def L19_0 : Lc τ := ⟨li19_0, itrs R19_0, lo19_0⟩
def M19 (c30 : A30 → Option B30) (c20 : A20 → Option B20) (l19_0 : LA19_0 → Option LB19_0) : A19 → Option B19 := fun ⟨s', ⟨⟨del'_0, del'_1⟩, ()⟩⟩ => ((c30 (s', ((del'_0, del'_1), ()))).bind fun ⟨y0, ()⟩ => (bif y0 == -1 then (some (s', ())) else (let v0 : Int := y0 + 1; let v1 : Int := IntKind.wrap IntKind.i64 v0; (l19_0 (s', ((del'_0, del'_1), (y0, (v1, ()))))).bind fun ⟨y2_0, ⟨y2_1, ()⟩⟩ => (let v2 : Int := ↑(List.length y2_0); (bif decide (0 ≤ y2_1) && decide (y2_1 ≤ v2) && decide (v2 ≤ v2) then some () else none).bind fun () => ((bif Nat.ble (Int.toNat y2_1 + (Int.toNat v2 - Int.toNat y2_1)) (List.length y2_0) then some () else none).bind fun () => (let v3 : Int := ↑(List.length (List.take (Int.toNat y2_1) y2_0 ++ List.replicate (Int.toNat v2 - Int.toNat y2_1) ({ data := #[] }, (0 : Int), (0 : Int), (0 : Int)) ++ List.drop (Int.toNat y2_1 + (Int.toNat v2 - Int.toNat y2_1)) y2_0)); (bif true && decide (0 ≤ y2_1) && decide (y2_1 ≤ v3) then some () else none).bind fun () => ((bif Nat.ble (Int.toNat y2_1 - (0 : Nat)) (List.length (List.take (Int.toNat y2_1) y2_0 ++ List.replicate (Int.toNat v2 - Int.toNat y2_1) ({ data := #[] }, (0 : Int), (0 : Int), (0 : Int)) ++ List.drop (Int.toNat y2_1 + (Int.toNat v2 - Int.toNat y2_1)) y2_0)) then some () else none).bind fun () => (some (List.take (Int.toNat y2_1 - (0 : Nat)) (List.take (Int.toNat y2_1) y2_0 ++ List.replicate (Int.toNat v2 - Int.toNat y2_1) ({ data := #[] }, (0 : Int), (0 : Int), (0 : Int)) ++ List.drop (Int.toNat y2_1 + (Int.toNat v2 - Int.toNat y2_1)) y2_0), ())))))))))
def N19 : A19 → Option B19 := M19 N30 N20 (itrs R19_0)
def C19 : Ctr τ := ⟨i19, o19, N19, 0⟩
theorem g19 : GOK κ Try.prog (G19 N30 N20) := (gok_cons s30 (keeps0 rfl) (gok_cons s20 (keeps0 rfl) gok_nil))
theorem le19_0 : ∀ (c30 : A30 → Option B30) (c20 : A20 → Option B20) x, Q19_0 c30 c20 x = run Try.prog κ (G19 c30 c20) (tabL []) 0 (loopAt Try.f19 0) (li19_0.build x) (rnd li19_0 lo19_0) := fun c30 c20 x => by kernel_rfl
theorem linner19_0 : ∀ Z : Zn, Z.rl = [] → 42 ≤ Z.nt → ∀ p ∈ loops 0 (loopAt Try.f19 0), ∀ C, (tabL []) p.1 = some C → LoopOK κ Try.prog Z p.2 C := fun Z h n => fun p hp => (by cases (show p ∈ ([] : List (Nat × Code)) from hp))
theorem lk19_0 : ∀ Z : Zn, Z.rl = [] → 42 ≤ Z.nt → LoopOK κ Try.prog Z (loopAt Try.f19 0) L19_0 := fun Z h n => loop_ok (S := (tabL [])) R19_0 (by kernel_rfl) g19 (by rw [h]; exact dsts_mono n _ (by kernel_rfl)) (linner19_0 Z h n) (by kernel_rfl) (by kernel_rfl) (le19_0 N30 N20) itrs_rounds
theorem lall19 : ∀ Z : Zn, Z.rl = C19.o.keeps → Try.f19.ntmps ≤ Z.nt → ∀ p ∈ loops 0 (bodyOf Try.f19), ∀ C, (tabL [(0, L19_0)]) p.1 = some C → LoopOK κ Try.prog Z p.2 C := fun Z h n => all_loops [(0, loopAt Try.f19 0)] (by kernel_rfl) (all_cons (fun C hC => (Option.some.inj hC : L19_0 = C) ▸ lk19_0 Z h n) (fun _ h => by cases h))
theorem e19 : ∀ (c30 : A30 → Option B30) (c20 : A20 → Option B20) (l19_0 : LA19_0 → Option LB19_0) x, M19 c30 c20 l19_0 x = fnE Try.prog κ (G19 c30 c20) (tabL [(0, (⟨li19_0, l19_0, lo19_0⟩ : Lc τ))]) Try.f19 i19 o19 x := fun c30 c20 l19_0 x => by kernel_rfl
theorem s19 : Sound κ Try.prog C19 19 := fn_sound (S := (tabL [(0, L19_0)])) (F := Try.f19) (code := bodyOf Try.f19) (by kernel_rfl) g19 Try.func19 (by kernel_rfl) (by kernel_rfl) (by kernel_rfl) lall19 (by kernel_rfl) (by kernel_rfl) fun x y h => (e19 N30 N20 (itrs R19_0) x).symm.trans h
end Go.Proofs.Ytedjdjngfdeheaa.E
namespace Go.Proofs.Ytedjdjngfdeheaa.E
open Go
set_option linter.unusedVariables false
set_option maxRecDepth 100000
abbrev A12 : Type := ((List T29 × Unit) × ByteArray × Int × Unit)
abbrev B12 : Type := (Int × (List T29 × Unit) × Unit)
def i12 : Fr τ A12 := (.ptr 0 none 46 (.own 29 .nil) (.val 1 .str (.val 2 (.int .i64) .nil)))
def o12 : Fr τ B12 := (.val 1000 (.int .i64) (.ptr 0 none 46 (.own 29 .nil) .nil))
def G12 (c20 : A20 → Option B20) (c19 : A19 → Option B19) : Nat → Option (Ctr τ) := tabG [(20, (⟨i20, o20, c20, 0⟩ : Ctr τ)), (19, (⟨i19, o19, c19, 0⟩ : Ctr τ))]
def M12 (c20 : A20 → Option B20) (c19 : A19 → Option B19) : A12 → Option B12 := fun ⟨⟨m', ()⟩, ⟨key', ⟨before', ()⟩⟩⟩ => ((c19 (m', ((key', before'), ()))).bind fun ⟨y0, ()⟩ => (let v0 : Int := ↑(List.length m'); let v1 : Int := ↑(List.length y0); let v2 : Int := v0 - v1; let v3 : Int := IntKind.wrap IntKind.i64 v2; some (v3, ((y0, ()), ()))))
def N12 : A12 → Option B12 := M12 N20 N19
def C12 : Ctr τ := ⟨i12, o12, N12, 0⟩
theorem g12 : GOK κ Try.prog (G12 N20 N19) := (gok_cons s20 (keeps0 rfl) (gok_cons s19 (keeps0 rfl) gok_nil))
theorem lall12 : ∀ Z : Zn, Z.rl = C12.o.keeps → Try.f12.ntmps ≤ Z.nt → ∀ p ∈ loops 0 (bodyOf Try.f12), ∀ C, (tabL []) p.1 = some C → LoopOK κ Try.prog Z p.2 C := fun Z h n => fun p hp => (by cases (show p ∈ ([] : List (Nat × Code)) from hp))
theorem e12 : ∀ (c20 : A20 → Option B20) (c19 : A19 → Option B19) x, M12 c20 c19 x = fnE Try.prog κ (G12 c20 c19) (tabL []) Try.f12 i12 o12 x := fun c20 c19 x => by kernel_rfl
theorem s12 : Sound κ Try.prog C12 12 := fn_sound (S := (tabL [])) (F := Try.f12) (code := bodyOf Try.f12) (by kernel_rfl) g12 Try.func12 (by kernel_rfl) (by kernel_rfl) (by kernel_rfl) lall12 (by kernel_rfl) (by kernel_rfl) fun x y h => (e12 N20 N19 x).symm.trans h
end Go.Proofs.Ytedjdjngfdeheaa.E
namespace Go.Proofs.Ytedjdjngfdeheaa.E
open Go
set_option linter.unusedVariables false
set_option maxRecDepth 100000
abbrev A3 : Type := ((List T29) × ByteArray × Int × Int × Int × Int × Unit)
abbrev B3 : Type := (Bool × Unit)
def i3 : Fr τ A3 := (.val 0 (.sl 29) (.val 1 .str (.val 2 (.int .i64) (.val 3 (.int .i64) (.val 4 (.int .i64) (.val 5 (.int .i64) .nil))))))
def o3 : Fr τ B3 := (.val 1000 .bool .nil)
def G3 (c7 : A7 → Option B7) (c8 : A8 → Option B8) (c9 : A9 → Option B9) (c10 : A10 → Option B10) (c11 : A11 → Option B11) (c12 : A12 → Option B12) : Nat → Option (Ctr τ) := tabG [(7, (⟨i7, o7, c7, 0⟩ : Ctr τ)), (8, (⟨i8, o8, c8, 0⟩ : Ctr τ)), (9, (⟨i9, o9, c9, 0⟩ : Ctr τ)), (10, (⟨i10, o10, c10, 0⟩ : Ctr τ)), (11, (⟨i11, o11, c11, 0⟩ : Ctr τ)), (12, (⟨i12, o12, c12, 0⟩ : Ctr τ))]
abbrev LA3_0 : Type := ((List T29) × ByteArray × Int × Int × Int × Int × (List T29 × Unit) × Int × Int × Unit)
abbrev LB3_0 : Type := (ByteArray × Int × Int × Int × Int × (List T29 × Unit) × Int × Unit)
def li3_0 : Fr τ LA3_0 := (.val 0 (.sl 29) (.val 1 .str (.val 2 (.int .i64) (.val 3 (.int .i64) (.val 4 (.int .i64) (.val 5 (.int .i64) (.ptr 13 none 46 (.own 29 .nil) (.val 14 (.int .i64) (.val 15 (.int .i64) .nil)))))))))
def lo3_0 : Ot τ LB3_0 := .one (.exit 0) (.val 1 .str (.val 2 (.int .i64) (.val 3 (.int .i64) (.val 4 (.int .i64) (.val 5 (.int .i64) (.ptr 13 none 46 (.own 29 .nil) (.val 14 (.int .i64) .nil)))))))
def Q3_0 (c7 : A7 → Option B7) (c8 : A8 → Option B8) (c9 : A9 → Option B9) (c10 : A10 → Option B10) (c11 : A11 → Option B11) (c12 : A12 → Option B12) : LA3_0 → Option (LA3_0 ⊕ LB3_0) := fun ⟨list', ⟨key', ⟨dim', ⟨from', ⟨mid', ⟨to', ⟨⟨m', ()⟩, ⟨taken', ⟨i', ()⟩⟩⟩⟩⟩⟩⟩⟩⟩ => (let v0 : Int := ↑(List.length list'); bif decide (i' < v0) then (bif decide (i' < 600) then ((bif decide (0 ≤ i') then list'[Int.toNat i']? else none).bind fun ⟨y2_0, ⟨y2_1, ⟨y2_2, y2_3⟩⟩⟩ => ((c9 ((m', ()), ((y2_0, (y2_1, (y2_2, y2_3))), ()))).bind fun ⟨y3_0, ⟨⟨y3_1, ()⟩, ()⟩⟩ => (bif y3_0 == 0 then (let v1 : Int := taken' + 1; let v2 : Int := IntKind.wrap IntKind.i64 v1; let v3 : Int := i' + 1; let v4 : Int := IntKind.wrap IntKind.i64 v3; some (.inl (list', (key', (dim', (from', (mid', (to', ((y3_1, ()), (v2, (v4, ()))))))))))) else (let v1 : Int := i' + 1; let v2 : Int := IntKind.wrap IntKind.i64 v1; some (.inl (list', (key', (dim', (from', (mid', (to', ((y3_1, ()), (taken', (v2, ())))))))))))))) else (some (.inr (key', (dim', (from', (mid', (to', ((m', ()), (taken', ())))))))))) else (some (.inr (key', (dim', (from', (mid', (to', ((m', ()), (taken', ()))))))))))
def R3_0 : LA3_0 → Option (LA3_0 ⊕ LB3_0) := Q3_0 N7 N8 N9 N10 N11 N12
def L3_0 : Lc τ := ⟨li3_0, itrs R3_0, lo3_0⟩
def M3 (c7 : A7 → Option B7) (c8 : A8 → Option B8) (c9 : A9 → Option B9) (c10 : A10 → Option B10) (c11 : A11 → Option B11) (c12 : A12 → Option B12) (l3_0 : LA3_0 → Option LB3_0) : A3 → Option B3 := fun ⟨list', ⟨key', ⟨dim', ⟨from', ⟨mid', ⟨to', ()⟩⟩⟩⟩⟩⟩ => ((c7 ()).bind fun ⟨y0, ()⟩ => (bif !y0 then (some (false, ())) else ((c8 ()).bind fun ⟨⟨y2, ()⟩, ()⟩ => ((l3_0 (list', (key', (dim', (from', (mid', (to', ((y2, ()), (0, (0, ())))))))))).bind fun ⟨y3_0, ⟨y3_1, ⟨y3_2, ⟨y3_3, ⟨y3_4, ⟨⟨y3_5, ()⟩, ⟨y3_6, ()⟩⟩⟩⟩⟩⟩⟩ => ((c10 (y3_5, ())).bind fun ⟨y4, ()⟩ => (bif y4 != y3_6 then (some (false, ())) else ((c11 (y3_5, (y3_0, (y3_1, (y3_2, (y3_4, ())))))).bind fun ⟨y6, ()⟩ => (bif decide (y3_2 ≤ y3_3) then (bif decide (y3_3 ≤ y3_4) then ((c11 (y3_5, (y3_0, (y3_1, (y3_2, (y3_3, ())))))).bind fun ⟨y9, ()⟩ => ((c11 (y3_5, (y3_0, (y3_1, (y3_3, (y3_4, ())))))).bind fun ⟨y10, ()⟩ => (let v0 : Int := y9 + y10; let v1 : Int := IntKind.wrap IntKind.i64 v0; bif y6 != v1 then (some (false, ())) else ((c11 (y3_5, (y3_0, (y3_1, (y3_3, (1000001, ())))))).bind fun ⟨y12, ()⟩ => ((bif decide (ByteArray.size y3_0 + 1 ≤ 9223372036854775807) then some () else none).bind fun () => ((c11 (y3_5, (y3_0 ++ { data := #[120] }, (y3_1, (0, (1000001, ())))))).bind fun ⟨y14, ()⟩ => ((c12 ((y3_5, ()), (y3_0, (y3_3, ())))).bind fun ⟨y15_0, ⟨⟨y15_1, ()⟩, ()⟩⟩ => ((c10 (y15_1, ())).bind fun ⟨y16, ()⟩ => (let v2 : Int := y3_6 - y15_0; let v3 : Int := IntKind.wrap IntKind.i64 v2; bif y16 != v3 then (some (false, ())) else ((c11 (y15_1, (y3_0, (y3_1, (-9223372036854775808, (y3_3, ())))))).bind fun ⟨y18, ()⟩ => (bif y18 != 0 then (some (false, ())) else ((c11 (y15_1, (y3_0, (y3_1, (y3_3, (1000001, ())))))).bind fun ⟨y20, ()⟩ => (bif y20 != y12 then (some (false, ())) else ((bif decide (ByteArray.size y3_0 + 1 ≤ 9223372036854775807) then some () else none).bind fun () => ((c11 (y15_1, (y3_0 ++ { data := #[120] }, (y3_1, (0, (1000001, ())))))).bind fun ⟨y23, ()⟩ => (bif y23 != y14 then (some (false, ())) else ((c12 ((y15_1, ()), (y3_0, (y3_3, ())))).bind fun ⟨y25_0, ⟨⟨y25_1, ()⟩, ()⟩⟩ => (bif y25_0 == 0 then (some (decide (y6 ≥ 0), ())) else (some (false, ())))))))))))))))))))) else ((c11 (y3_5, (y3_0, (y3_1, (y3_3, (1000001, ())))))).bind fun ⟨y9, ()⟩ => ((bif decide (ByteArray.size y3_0 + 1 ≤ 9223372036854775807) then some () else none).bind fun () => ((c11 (y3_5, (y3_0 ++ { data := #[120] }, (y3_1, (0, (1000001, ())))))).bind fun ⟨y11, ()⟩ => ((c12 ((y3_5, ()), (y3_0, (y3_3, ())))).bind fun ⟨y12_0, ⟨⟨y12_1, ()⟩, ()⟩⟩ => ((c10 (y12_1, ())).bind fun ⟨y13, ()⟩ => (let v0 : Int := y3_6 - y12_0; let v1 : Int := IntKind.wrap IntKind.i64 v0; bif y13 != v1 then (some (false, ())) else ((c11 (y12_1, (y3_0, (y3_1, (-9223372036854775808, (y3_3, ())))))).bind fun ⟨y15, ()⟩ => (bif y15 != 0 then (some (false, ())) else ((c11 (y12_1, (y3_0, (y3_1, (y3_3, (1000001, ())))))).bind fun ⟨y17, ()⟩ => (bif y17 != y9 then (some (false, ())) else ((bif decide (ByteArray.size y3_0 + 1 ≤ 9223372036854775807) then some () else none).bind fun () => ((c11 (y12_1, (y3_0 ++ { data := #[120] }, (y3_1, (0, (1000001, ())))))).bind fun ⟨y20, ()⟩ => (bif y20 != y11 then (some (false, ())) else ((c12 ((y12_1, ()), (y3_0, (y3_3, ())))).bind fun ⟨y22_0, ⟨⟨y22_1, ()⟩, ()⟩⟩ => (bif y22_0 == 0 then (some (decide (y6 ≥ 0), ())) else (some (false, ())))))))))))))))))) else ((c11 (y3_5, (y3_0, (y3_1, (y3_3, (1000001, ())))))).bind fun ⟨y8, ()⟩ => ((bif decide (ByteArray.size y3_0 + 1 ≤ 9223372036854775807) then some () else none).bind fun () => ((c11 (y3_5, (y3_0 ++ { data := #[120] }, (y3_1, (0, (1000001, ())))))).bind fun ⟨y10, ()⟩ => ((c12 ((y3_5, ()), (y3_0, (y3_3, ())))).bind fun ⟨y11_0, ⟨⟨y11_1, ()⟩, ()⟩⟩ => ((c10 (y11_1, ())).bind fun ⟨y12, ()⟩ => (let v0 : Int := y3_6 - y11_0; let v1 : Int := IntKind.wrap IntKind.i64 v0; bif y12 != v1 then (some (false, ())) else ((c11 (y11_1, (y3_0, (y3_1, (-9223372036854775808, (y3_3, ())))))).bind fun ⟨y14, ()⟩ => (bif y14 != 0 then (some (false, ())) else ((c11 (y11_1, (y3_0, (y3_1, (y3_3, (1000001, ())))))).bind fun ⟨y16, ()⟩ => (bif y16 != y8 then (some (false, ())) else ((bif decide (ByteArray.size y3_0 + 1 ≤ 9223372036854775807) then some () else none).bind fun () => ((c11 (y11_1, (y3_0 ++ { data := #[120] }, (y3_1, (0, (1000001, ())))))).bind fun ⟨y19, ()⟩ => (bif y19 != y10 then (some (false, ())) else ((c12 ((y11_1, ()), (y3_0, (y3_3, ())))).bind fun ⟨y21_0, ⟨⟨y21_1, ()⟩, ()⟩⟩ => (bif y21_0 == 0 then (some (decide (y6 ≥ 0), ())) else (some (false, ())))))))))))))))))))))))))
def N3 : A3 → Option B3 := M3 N7 N8 N9 N10 N11 N12 (itrs R3_0)
def C3 : Ctr τ := ⟨i3, o3, N3, 0⟩
theorem g3 : GOK κ Try.prog (G3 N7 N8 N9 N10 N11 N12) := (gok_cons s7 (keeps0 rfl) (gok_cons s8 (keeps0 rfl) (gok_cons s9 (keeps0 rfl) (gok_cons s10 (keeps0 rfl) (gok_cons s11 (keeps0 rfl) (gok_cons s12 (keeps0 rfl) gok_nil))))))
theorem le3_0 : ∀ (c7 : A7 → Option B7) (c8 : A8 → Option B8) (c9 : A9 → Option B9) (c10 : A10 → Option B10) (c11 : A11 → Option B11) (c12 : A12 → Option B12) x, Q3_0 c7 c8 c9 c10 c11 c12 x = run Try.prog κ (G3 c7 c8 c9 c10 c11 c12) (tabL []) 0 (loopAt Try.f3 0) (li3_0.build x) (rnd li3_0 lo3_0) := fun c7 c8 c9 c10 c11 c12 x => by kernel_rfl
theorem linner3_0 : ∀ Z : Zn, Z.rl = [] → 132 ≤ Z.nt → ∀ p ∈ loops 0 (loopAt Try.f3 0), ∀ C, (tabL []) p.1 = some C → LoopOK κ Try.prog Z p.2 C := fun Z h n => fun p hp => (by cases (show p ∈ ([] : List (Nat × Code)) from hp))
theorem lk3_0 : ∀ Z : Zn, Z.rl = [] → 132 ≤ Z.nt → LoopOK κ Try.prog Z (loopAt Try.f3 0) L3_0 := fun Z h n => loop_ok (S := (tabL [])) R3_0 (by kernel_rfl) g3 (by rw [h]; exact dsts_mono n _ (by kernel_rfl)) (linner3_0 Z h n) (by kernel_rfl) (by kernel_rfl) (le3_0 N7 N8 N9 N10 N11 N12) itrs_rounds
theorem lall3 : ∀ Z : Zn, Z.rl = C3.o.keeps → Try.f3.ntmps ≤ Z.nt → ∀ p ∈ loops 0 (bodyOf Try.f3), ∀ C, (tabL [(0, L3_0)]) p.1 = some C → LoopOK κ Try.prog Z p.2 C := fun Z h n => all_loops [(0, loopAt Try.f3 0)] (by kernel_rfl) (all_cons (fun C hC => (Option.some.inj hC : L3_0 = C) ▸ lk3_0 Z h n) (fun _ h => by cases h))
theorem e3 : ∀ (c7 : A7 → Option B7) (c8 : A8 → Option B8) (c9 : A9 → Option B9) (c10 : A10 → Option B10) (c11 : A11 → Option B11) (c12 : A12 → Option B12) (l3_0 : LA3_0 → Option LB3_0) x, M3 c7 c8 c9 c10 c11 c12 l3_0 x = fnE Try.prog κ (G3 c7 c8 c9 c10 c11 c12) (tabL [(0, (⟨li3_0, l3_0, lo3_0⟩ : Lc τ))]) Try.f3 i3 o3 x := fun c7 c8 c9 c10 c11 c12 l3_0 x => by kernel_rfl
theorem s3 : Sound κ Try.prog C3 3 := fn_sound (S := (tabL [(0, L3_0)])) (F := Try.f3) (code := bodyOf Try.f3) (by kernel_rfl) g3 Try.func3 (by kernel_rfl) (by kernel_rfl) (by kernel_rfl) lall3 (by kernel_rfl) (by kernel_rfl) fun x y h => (e3 N7 N8 N9 N10 N11 N12 (itrs R3_0) x).symm.trans h
end Go.Proofs.Ytedjdjngfdeheaa.E
