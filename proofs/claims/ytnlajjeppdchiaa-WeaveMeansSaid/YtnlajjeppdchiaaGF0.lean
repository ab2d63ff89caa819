/- What each function comes to, told as a Lean function, and that the machine does so. No condition. -/
import Derived.Test.YtnlajjeppdchiaaGE1
import Derived.Test.YtnlajjeppdchiaaProg
namespace Go.Proofs.Ytnlajjeppdchiaa.E
open Go
set_option linter.unusedVariables false
abbrev T43 : Type := (Int × ((Int × Int) × ((Int × Int) × (Int × Int))))
abbrev T65 : Type := (Int × Int)
abbrev T3 : Type := Int
abbrev T27 : Type := (Int × (Int × (List T43)))
abbrev T39 : Type := (Int × Int)
abbrev T2 : Type := Int
def τ : Nat → Type := fun e => bif Nat.beq e 43 then T43 else bif Nat.beq e 65 then T65 else bif Nat.beq e 3 then T3 else bif Nat.beq e 27 then T27 else bif Nat.beq e 39 then T39 else bif Nat.beq e 2 then T2 else Unit
theorem τ_else {e : Nat} (h43 : ¬ e = 43) (h65 : ¬ e = 65) (h3 : ¬ e = 3) (h27 : ¬ e = 27) (h39 : ¬ e = 39) (h2 : ¬ e = 2) : τ e = Unit := by simp [τ, beq_false h43, beq_false h65, beq_false h3, beq_false h27, beq_false h39, beq_false h2]
def κ : (e : Nat) → K τ (τ e) := fun e => if h43 : e = 43 then h43 ▸ (show K τ (τ 43) from ((.pair (.int .i64) (.pair (.pair (.int .i64) (.int .u64)) (.pair (.pair (.int .i64) (.int .u64)) (.pair (.int .i64) (.int .u64))))) : K τ T43)) else if h65 : e = 65 then h65 ▸ (show K τ (τ 65) from ((.pair (.int .i64) (.int .i64)) : K τ T65)) else if h3 : e = 3 then h3 ▸ (show K τ (τ 3) from ((.int .i64) : K τ T3)) else if h27 : e = 27 then h27 ▸ (show K τ (τ 27) from ((.pair (.int .i64) (.pair (.int .i64) (.sl 43))) : K τ T27)) else if h39 : e = 39 then h39 ▸ (show K τ (τ 39) from ((.pair (.int .i64) (.int .u64)) : K τ T39)) else if h2 : e = 2 then h2 ▸ (show K τ (τ 2) from ((.int .i64) : K τ T2)) else cast (congrArg (K τ) (τ_else h43 h65 h3 h27 h39 h2).symm) K.unit
end Go.Proofs.Ytnlajjeppdchiaa.E
namespace Go.Proofs.Ytnlajjeppdchiaa.E
open Go
set_option linter.unusedVariables false
set_option maxRecDepth 100000
abbrev A18 : Type := (Int × Unit)
abbrev B18 : Type := ((Int × Int) × Unit)
def i18 : Fr τ A18 := (.val 0 (.int .i64) .nil)
def o18 : Fr τ B18 := (.val 1000 (.pair (.int .i64) (.int .u64)) .nil)
def G18 : Nat → Option (Ctr τ) := tabG []
def M18 : A18 → Option B18 := fun ⟨v', ()⟩ => (let v0 : Int := Int.fdiv v' 9223372036854775808; let v1 : Int := IntKind.wrap IntKind.u64 v'; some ((v0, v1), ()))
def N18 : A18 → Option B18 := M18
def C18 : Ctr τ := ⟨i18, o18, N18⟩
theorem g18 : GOK κ Try.prog (G18) := gok_nil
theorem lall18 : ∀ Z : Zn, Z.rl = C18.o.keeps → Try.f18.ntmps ≤ Z.nt → ∀ p ∈ loops 0 (bodyOf Try.f18), ∀ C, (tabL []) p.1 = some C → LoopOK κ Try.prog Z p.2 C := fun Z h n => fun p hp => (by cases (show p ∈ ([] : List (Nat × Code)) from hp))
theorem e18 : ∀ x, M18 x = fnE Try.prog κ (G18) (tabL []) Try.f18 i18 o18 x := fun x => by kernel_rfl
theorem s18 : Sound κ Try.prog C18 18 := fn_sound (S := (tabL [])) (F := Try.f18) (code := bodyOf Try.f18) (by kernel_rfl) g18 Try.func18 (by kernel_rfl) (by kernel_rfl) (by kernel_rfl) lall18 (by kernel_rfl) (by kernel_rfl) fun x y h => (e18 x).symm.trans h
end Go.Proofs.Ytnlajjeppdchiaa.E
namespace Go.Proofs.Ytnlajjeppdchiaa.E
open Go
set_option linter.unusedVariables false
set_option maxRecDepth 100000
abbrev A17 : Type := (Int × Int × Int × Unit)
abbrev B17 : Type := ((Int × (Int × (List T43))) × Unit)
def i17 : Fr τ A17 := (.val 0 (.int .i64) (.val 1 (.int .i64) (.val 2 (.int .i64) .nil)))
def o17 : Fr τ B17 := (.val 1000 (.pair (.int .i64) (.pair (.int .i64) (.sl 43))) .nil)
def G17 (c18 : A18 → Option B18) : Nat → Option (Ctr τ) := tabG [(18, (⟨i18, o18, c18⟩ : Ctr τ))]
def M17 (c18 : A18 → Option B18) : A17 → Option B17 := fun ⟨a', ⟨from', ⟨b', ()⟩⟩⟩ => ((c18 (a', ())).bind fun ⟨⟨y0_0, y0_1⟩, ()⟩ => ((c18 (b', ())).bind fun ⟨⟨y1_0, y1_1⟩, ()⟩ => (some ((10, (0, [(0, (y0_0, y0_1), (0, 0), 0, 0), (from', (y1_0, y1_1), (0, 0), 0, 0)])), ()))))
def N17 : A17 → Option B17 := M17 N18
def C17 : Ctr τ := ⟨i17, o17, N17⟩
theorem g17 : GOK κ Try.prog (G17 N18) := (gok_cons s18 gok_nil)
theorem lall17 : ∀ Z : Zn, Z.rl = C17.o.keeps → Try.f17.ntmps ≤ Z.nt → ∀ p ∈ loops 0 (bodyOf Try.f17), ∀ C, (tabL []) p.1 = some C → LoopOK κ Try.prog Z p.2 C := fun Z h n => fun p hp => (by cases (show p ∈ ([] : List (Nat × Code)) from hp))
theorem e17 : ∀ (c18 : A18 → Option B18) x, M17 c18 x = fnE Try.prog κ (G17 c18) (tabL []) Try.f17 i17 o17 x := fun c18 x => by kernel_rfl
theorem s17 : Sound κ Try.prog C17 17 := fn_sound (S := (tabL [])) (F := Try.f17) (code := bodyOf Try.f17) (by kernel_rfl) g17 Try.func17 (by kernel_rfl) (by kernel_rfl) (by kernel_rfl) lall17 (by kernel_rfl) (by kernel_rfl) fun x y h => (e17 N18 x).symm.trans h
end Go.Proofs.Ytnlajjeppdchiaa.E
namespace Go.Proofs.Ytnlajjeppdchiaa.E
open Go
set_option linter.unusedVariables false
set_option maxRecDepth 100000
abbrev A14 : Type := ((Int × (Int × (List T43))) × Unit)
abbrev B14 : Type := (Bool × Unit)
def i14 : Fr τ A14 := (.val 0 (.pair (.int .i64) (.pair (.int .i64) (.sl 43))) .nil)
def o14 : Fr τ B14 := (.val 1000 .bool .nil)
def G14 : Nat → Option (Ctr τ) := tabG []
abbrev LA14_0 : Type := ((Int × (Int × ((List T43) × Unit))) × Int × Int × Unit)
abbrev LB14_0 : Type := (Unit) ⊕ (Bool × Unit)
def li14_0 : Fr τ LA14_0 := (.ptr 1 none 27 (.val (.int .i64) (.val (.int .i64) (.val (.sl 43) .nil))) (.val 45 (.int .i64) (.val 46 (.int .i64) .nil)))
def lo14_0 : Ot τ LB14_0 := .alt (.exit 0) .nil (.one .ret (.val 2 .bool .nil))
def Q14_0 : LA14_0 → Option (LA14_0 ⊕ LB14_0) := fun ⟨⟨t'_0, ⟨t'_1, ⟨t'_2, ()⟩⟩⟩, ⟨t45', ⟨t46', ()⟩⟩⟩ => (bif decide (t46' < t45') then ((bif decide (0 ≤ t46') then t'_2[Int.toNat t46']? else none).bind fun ⟨y1_0, ⟨⟨y1_1, y1_2⟩, ⟨⟨y1_3, y1_4⟩, ⟨y1_5, y1_6⟩⟩⟩⟩ => (let v0 : Int := t46' + 1; let v1 : Int := IntKind.wrap IntKind.i64 v0; (bif decide (0 ≤ v1) then t'_2[Int.toNat v1]? else none).bind fun ⟨y2_0, ⟨⟨y2_1, y2_2⟩, ⟨⟨y2_3, y2_4⟩, ⟨y2_5, y2_6⟩⟩⟩⟩ => (bif decide (y1_0 ≥ y2_0) then (some (.inr (.inr (false, ())))) else (bif decide (y2_0 > 1099511627776) then (some (.inr (.inr (false, ())))) else (bif y1_1 == y2_1 && y1_2 == y2_2 && (y1_3 == y2_3 && y1_4 == y2_4 && (y1_5 == y2_5 && y1_6 == y2_6)) then (some (.inr (.inr (false, ())))) else (some (.inl ((t'_0, (t'_1, (t'_2, ()))), (t45', (v1, ())))))))))) else (some (.inr (.inl ()))))
def R14_0 : LA14_0 → Option (LA14_0 ⊕ LB14_0) := Q14_0
def L14_0 : Lc τ := ⟨li14_0, itrs R14_0, lo14_0⟩
def M14 (l14_0 : LA14_0 → Option LB14_0) : A14 → Option B14 := fun ⟨⟨t'_0, ⟨t'_1, t'_2⟩⟩, ()⟩ => (bif decide (t'_0 < 1) then (some (false, ())) else (bif decide (t'_0 > 1000000000000) then (some (false, ())) else (bif decide (t'_1 < 0) then (some (false, ())) else (bif decide (t'_1 > 6) then (some (false, ())) else (let v0 : Int := ↑(List.length t'_2); bif decide (v0 < 1) then (some (false, ())) else (bif decide (v0 > 256) then (some (false, ())) else ((t'_2[0]?).bind fun ⟨y6_0, ⟨⟨y6_1, y6_2⟩, ⟨⟨y6_3, y6_4⟩, ⟨y6_5, y6_6⟩⟩⟩⟩ => (bif y6_0 != 0 then (some (false, ())) else (let v1 : Int := v0 - 1; let v2 : Int := IntKind.wrap IntKind.i64 v1; (l14_0 ((t'_0, (t'_1, (t'_2, ()))), (v2, (0, ())))).bind fun y8 => (match y8 with | .inl () => (some (true, ())) | .inr ⟨y9, ()⟩ => (some (y9, ()))))))))))))
def N14 : A14 → Option B14 := M14 (itrs R14_0)
def C14 : Ctr τ := ⟨i14, o14, N14⟩
theorem g14 : GOK κ Try.prog (G14) := gok_nil
theorem le14_0 : ∀ x, Q14_0 x = run Try.prog κ (G14) (tabL []) 0 (loopAt Try.f14 0) (li14_0.build x) (rnd li14_0 lo14_0) := fun x => by kernel_rfl
theorem linner14_0 : ∀ Z : Zn, Z.rl = [] → 78 ≤ Z.nt → ∀ p ∈ loops 0 (loopAt Try.f14 0), ∀ C, (tabL []) p.1 = some C → LoopOK κ Try.prog Z p.2 C := fun Z h n => fun p hp => (by cases (show p ∈ ([] : List (Nat × Code)) from hp))
theorem lk14_0 : ∀ Z : Zn, Z.rl = [] → 78 ≤ Z.nt → LoopOK κ Try.prog Z (loopAt Try.f14 0) L14_0 := fun Z h n => loop_ok (S := (tabL [])) R14_0 (by kernel_rfl) g14 (by rw [h]; exact dsts_mono n _ (by kernel_rfl)) (linner14_0 Z h n) (by kernel_rfl) (by kernel_rfl) (le14_0) itrs_rounds
theorem lall14 : ∀ Z : Zn, Z.rl = C14.o.keeps → Try.f14.ntmps ≤ Z.nt → ∀ p ∈ loops 0 (bodyOf Try.f14), ∀ C, (tabL [(0, L14_0)]) p.1 = some C → LoopOK κ Try.prog Z p.2 C := fun Z h n => all_loops [(0, loopAt Try.f14 0)] (by kernel_rfl) (all_cons (fun C hC => (Option.some.inj hC : L14_0 = C) ▸ lk14_0 Z h n) (fun _ h => by cases h))
theorem e14 : ∀ (l14_0 : LA14_0 → Option LB14_0) x, M14 l14_0 x = fnE Try.prog κ (G14) (tabL [(0, (⟨li14_0, l14_0, lo14_0⟩ : Lc τ))]) Try.f14 i14 o14 x := fun l14_0 x => by kernel_rfl
theorem s14 : Sound κ Try.prog C14 14 := fn_sound (S := (tabL [(0, L14_0)])) (F := Try.f14) (code := bodyOf Try.f14) (by kernel_rfl) g14 Try.func14 (by kernel_rfl) (by kernel_rfl) (by kernel_rfl) lall14 (by kernel_rfl) (by kernel_rfl) fun x y h => (e14 (itrs R14_0) x).symm.trans h
end Go.Proofs.Ytnlajjeppdchiaa.E
namespace Go.Proofs.Ytnlajjeppdchiaa.E
open Go
set_option linter.unusedVariables false
set_option maxRecDepth 100000
abbrev A67 : Type := ((List T65) × Int × Int × Unit)
abbrev B67 : Type := (Bool × (List T65) × Unit)
def i67 : Fr τ A67 := (.own 0 65 (.val 1 (.int .i64) (.val 2 (.int .i64) .nil)))
def o67 : Fr τ B67 := (.val 1000 .bool (.own 0 65 .nil))
def G67 : Nat → Option (Ctr τ) := tabG []
def M67 : A67 → Option B67 := fun ⟨q', ⟨i', ⟨j', ()⟩⟩⟩ => (let v0 : Int := ↑(List.length q'); (bif decide (0 ≤ i') && decide (i' < v0) then some () else none).bind fun () => ((q'[Int.toNat i']?).bind fun ⟨y1_0, y1_1⟩ => ((bif decide (0 ≤ j') && decide (j' < v0) then some () else none).bind fun () => ((q'[Int.toNat j']?).bind fun ⟨y3_0, y3_1⟩ => (some (decide (y1_0 < y3_0), (q', ())))))))
def N67 : A67 → Option B67 := M67
def C67 : Ctr τ := ⟨i67, o67, N67⟩
theorem g67 : GOK κ Try.prog (G67) := gok_nil
theorem lall67 : ∀ Z : Zn, Z.rl = C67.o.keeps → Try.f67.ntmps ≤ Z.nt → ∀ p ∈ loops 0 (bodyOf Try.f67), ∀ C, (tabL []) p.1 = some C → LoopOK κ Try.prog Z p.2 C := fun Z h n => fun p hp => (by cases (show p ∈ ([] : List (Nat × Code)) from hp))
theorem e67 : ∀ x, M67 x = fnE Try.prog κ (G67) (tabL []) Try.f67 i67 o67 x := fun x => by kernel_rfl
theorem s67 : Sound κ Try.prog C67 67 := fn_sound (S := (tabL [])) (F := Try.f67) (code := bodyOf Try.f67) (by kernel_rfl) g67 Try.func67 (by kernel_rfl) (by kernel_rfl) (by kernel_rfl) lall67 (by kernel_rfl) (by kernel_rfl) fun x y h => (e67 x).symm.trans h
end Go.Proofs.Ytnlajjeppdchiaa.E
namespace Go.Proofs.Ytnlajjeppdchiaa.E
open Go
set_option linter.unusedVariables false
set_option maxRecDepth 100000
abbrev A70 : Type := ((List T65) × Int × Int × Unit)
abbrev B70 : Type := ((List T65) × Unit)
def i70 : Fr τ A70 := (.own 0 65 (.val 1 (.int .i64) (.val 2 (.int .i64) .nil)))
def o70 : Fr τ B70 := (.own 0 65 .nil)
def G70 : Nat → Option (Ctr τ) := tabG []
def M70 : A70 → Option B70 := fun ⟨q', ⟨i', ⟨j', ()⟩⟩⟩ => (let v0 : Int := ↑(List.length q'); (bif decide (0 ≤ j') && decide (j' < v0) then some () else none).bind fun () => ((q'[Int.toNat j']?).bind fun ⟨y1_0, y1_1⟩ => ((bif decide (0 ≤ i') && decide (i' < v0) then some () else none).bind fun () => ((q'[Int.toNat i']?).bind fun ⟨y3_0, y3_1⟩ => ((bif decide (0 ≤ i') && decide (i' < v0) then some () else none).bind fun () => ((((q'[Int.toNat i']?).bind fun ⟨y45_0, y45_1⟩ => (some (y1_0, y1_1))) : (Option (Int × Int))).bind fun ⟨y5_0, y5_1⟩ => (let v1 : Int := ↑(List.length (List.set q' (Int.toNat i') (y5_0, y5_1))); (bif decide (0 ≤ j') && decide (j' < v1) then some () else none).bind fun () => (((((List.set q' (Int.toNat i') (y5_0, y5_1))[Int.toNat j']?).bind fun ⟨y47_0, y47_1⟩ => (some (y3_0, y3_1))) : (Option (Int × Int))).bind fun ⟨y7_0, y7_1⟩ => (some (List.set (List.set q' (Int.toNat i') (y5_0, y5_1)) (Int.toNat j') (y7_0, y7_1), ()))))))))))
def N70 : A70 → Option B70 := M70
def C70 : Ctr τ := ⟨i70, o70, N70⟩
theorem g70 : GOK κ Try.prog (G70) := gok_nil
theorem lall70 : ∀ Z : Zn, Z.rl = C70.o.keeps → Try.f70.ntmps ≤ Z.nt → ∀ p ∈ loops 0 (bodyOf Try.f70), ∀ C, (tabL []) p.1 = some C → LoopOK κ Try.prog Z p.2 C := fun Z h n => fun p hp => (by cases (show p ∈ ([] : List (Nat × Code)) from hp))
theorem e70 : ∀ x, M70 x = fnE Try.prog κ (G70) (tabL []) Try.f70 i70 o70 x := fun x => by kernel_rfl
theorem s70 : Sound κ Try.prog C70 70 := fn_sound (S := (tabL [])) (F := Try.f70) (code := bodyOf Try.f70) (by kernel_rfl) g70 Try.func70 (by kernel_rfl) (by kernel_rfl) (by kernel_rfl) lall70 (by kernel_rfl) (by kernel_rfl) fun x y h => (e70 x).symm.trans h
end Go.Proofs.Ytnlajjeppdchiaa.E
namespace Go.Proofs.Ytnlajjeppdchiaa.E
open Go
set_option linter.unusedVariables false
set_option maxRecDepth 100000
abbrev A34 : Type := ((List T65 × Unit) × Int × Unit)
abbrev B34 : Type := ((List T65 × Unit) × Unit)
def i34 : Fr τ A34 := (.ptr 0 (some 60) 62 (.own 65 .nil) (.val 1 (.int .i64) .nil))
def o34 : Fr τ B34 := (.ptr 0 (some 60) 62 (.own 65 .nil) .nil)
def G34 (c67 : A67 → Option B67) (c70 : A70 → Option B70) : Nat → Option (Ctr τ) := tabG [(67, (⟨i67, o67, c67⟩ : Ctr τ)), (70, (⟨i70, o70, c70⟩ : Ctr τ))]
abbrev LA34_0 : Type := ((List T65 × Unit) × Int × Unit)
abbrev LB34_0 : Type := ((List T65 × Unit) × Unit)
def li34_0 : Fr τ LA34_0 := (.ptr 0 (some 60) 62 (.own 65 .nil) (.val 1 (.int .i64) .nil))
def lo34_0 : Ot τ LB34_0 := .one (.exit 0) (.ptr 0 (some 60) 62 (.own 65 .nil) .nil)
def Q34_0 (c67 : A67 → Option B67) (c70 : A70 → Option B70) : LA34_0 → Option (LA34_0 ⊕ LB34_0) := fun ⟨⟨h', ()⟩, ⟨j', ()⟩⟩ => (let v0 : Int := j' - 1; let v1 : Int := IntKind.wrap IntKind.i64 v0; let v2 : Int := Int.tdiv v1 2; let v3 : Int := IntKind.wrap IntKind.i64 v2; bif v3 == j' then (some (.inr ((h', ()), ()))) else ((c67 (h', (j', (v3, ())))).bind fun ⟨y1_0, ⟨y1_1, ()⟩⟩ => (bif !y1_0 then (some (.inr ((y1_1, ()), ()))) else ((c70 (y1_1, (v3, (j', ())))).bind fun ⟨y3, ()⟩ => (some (.inl ((y3, ()), (v3, ()))))))))
def R34_0 : LA34_0 → Option (LA34_0 ⊕ LB34_0) := Q34_0 N67 N70
def L34_0 : Lc τ := ⟨li34_0, itrs R34_0, lo34_0⟩
def M34 (c67 : A67 → Option B67) (c70 : A70 → Option B70) (l34_0 : LA34_0 → Option LB34_0) : A34 → Option B34 := fun ⟨⟨h', ()⟩, ⟨j', ()⟩⟩ => ((l34_0 ((h', ()), (j', ()))).bind fun ⟨⟨y0, ()⟩, ()⟩ => (some ((y0, ()), ())))
def N34 : A34 → Option B34 := M34 N67 N70 (itrs R34_0)
def C34 : Ctr τ := ⟨i34, o34, N34⟩
theorem g34 : GOK κ Try.prog (G34 N67 N70) := (gok_cons s67 (gok_cons s70 gok_nil))
theorem le34_0 : ∀ (c67 : A67 → Option B67) (c70 : A70 → Option B70) x, Q34_0 c67 c70 x = run Try.prog κ (G34 c67 c70) (tabL []) 0 (loopAt Try.f34 0) (li34_0.build x) (rnd li34_0 lo34_0) := fun c67 c70 x => by kernel_rfl
theorem linner34_0 : ∀ Z : Zn, Z.rl = [0] → 23 ≤ Z.nt → ∀ p ∈ loops 0 (loopAt Try.f34 0), ∀ C, (tabL []) p.1 = some C → LoopOK κ Try.prog Z p.2 C := fun Z h n => fun p hp => (by cases (show p ∈ ([] : List (Nat × Code)) from hp))
theorem lk34_0 : ∀ Z : Zn, Z.rl = [0] → 23 ≤ Z.nt → LoopOK κ Try.prog Z (loopAt Try.f34 0) L34_0 := fun Z h n => loop_ok (S := (tabL [])) R34_0 (by kernel_rfl) g34 (by rw [h]; exact dsts_mono n _ (by kernel_rfl)) (linner34_0 Z h n) (by kernel_rfl) (by kernel_rfl) (le34_0 N67 N70) itrs_rounds
theorem lall34 : ∀ Z : Zn, Z.rl = C34.o.keeps → Try.f34.ntmps ≤ Z.nt → ∀ p ∈ loops 0 (bodyOf Try.f34), ∀ C, (tabL [(0, L34_0)]) p.1 = some C → LoopOK κ Try.prog Z p.2 C := fun Z h n => all_loops [(0, loopAt Try.f34 0)] (by kernel_rfl) (all_cons (fun C hC => (Option.some.inj hC : L34_0 = C) ▸ lk34_0 Z h n) (fun _ h => by cases h))
theorem e34 : ∀ (c67 : A67 → Option B67) (c70 : A70 → Option B70) (l34_0 : LA34_0 → Option LB34_0) x, M34 c67 c70 l34_0 x = fnE Try.prog κ (G34 c67 c70) (tabL [(0, (⟨li34_0, l34_0, lo34_0⟩ : Lc τ))]) Try.f34 i34 o34 x := fun c67 c70 l34_0 x => by kernel_rfl
theorem s34 : Sound κ Try.prog C34 34 := fn_sound (S := (tabL [(0, L34_0)])) (F := Try.f34) (code := bodyOf Try.f34) (by kernel_rfl) g34 Try.func34 (by kernel_rfl) (by kernel_rfl) (by kernel_rfl) lall34 (by kernel_rfl) (by kernel_rfl) fun x y h => (e34 N67 N70 (itrs R34_0) x).symm.trans h
end Go.Proofs.Ytnlajjeppdchiaa.E
namespace Go.Proofs.Ytnlajjeppdchiaa.E
open Go
set_option linter.unusedVariables false
set_option maxRecDepth 100000
abbrev A69 : Type := ((List T65 × Unit) × T65 × Unit)
abbrev B69 : Type := ((List T65 × Unit) × Unit)
def i69 : Fr τ A69 := (.ptr 0 none 62 (.own 65 .nil) (.val 1 (.box 65 65) .nil))
def o69 : Fr τ B69 := (.ptr 0 none 62 (.own 65 .nil) .nil)
def G69 : Nat → Option (Ctr τ) := tabG []
def M69 : A69 → Option B69 := fun ⟨⟨q', ()⟩, ⟨⟨x'_0, x'_1⟩, ()⟩⟩ => ((bif decide ((List.length q' + 1) * 16 ≤ 210000000000000) then some () else none).bind fun () => (some ((q' ++ [(x'_0, x'_1)], ()), ())))
def N69 : A69 → Option B69 := M69
def C69 : Ctr τ := ⟨i69, o69, N69⟩
theorem g69 : GOK κ Try.prog (G69) := gok_nil
theorem lall69 : ∀ Z : Zn, Z.rl = C69.o.keeps → Try.f69.ntmps ≤ Z.nt → ∀ p ∈ loops 0 (bodyOf Try.f69), ∀ C, (tabL []) p.1 = some C → LoopOK κ Try.prog Z p.2 C := fun Z h n => fun p hp => (by cases (show p ∈ ([] : List (Nat × Code)) from hp))
theorem e69 : ∀ x, M69 x = fnE Try.prog κ (G69) (tabL []) Try.f69 i69 o69 x := fun x => by kernel_rfl
theorem s69 : Sound κ Try.prog C69 69 := fn_sound (S := (tabL [])) (F := Try.f69) (code := bodyOf Try.f69) (by kernel_rfl) g69 Try.func69 (by kernel_rfl) (by kernel_rfl) (by kernel_rfl) lall69 (by kernel_rfl) (by kernel_rfl) fun x y h => (e69 x).symm.trans h
end Go.Proofs.Ytnlajjeppdchiaa.E
namespace Go.Proofs.Ytnlajjeppdchiaa.E
open Go
set_option linter.unusedVariables false
set_option maxRecDepth 100000
abbrev A25 : Type := ((List T65) × Unit)
abbrev B25 : Type := (Int × (List T65) × Unit)
def i25 : Fr τ A25 := (.own 0 65 .nil)
def o25 : Fr τ B25 := (.val 1000 (.int .i64) (.own 0 65 .nil))
def G25 : Nat → Option (Ctr τ) := tabG []
def M25 : A25 → Option B25 := fun ⟨q', ()⟩ => (let v0 : Int := ↑(List.length q'); some (v0, (q', ())))
def N25 : A25 → Option B25 := M25
def C25 : Ctr τ := ⟨i25, o25, N25⟩
theorem g25 : GOK κ Try.prog (G25) := gok_nil
theorem lall25 : ∀ Z : Zn, Z.rl = C25.o.keeps → Try.f25.ntmps ≤ Z.nt → ∀ p ∈ loops 0 (bodyOf Try.f25), ∀ C, (tabL []) p.1 = some C → LoopOK κ Try.prog Z p.2 C := fun Z h n => fun p hp => (by cases (show p ∈ ([] : List (Nat × Code)) from hp))
theorem e25 : ∀ x, M25 x = fnE Try.prog κ (G25) (tabL []) Try.f25 i25 o25 x := fun x => by kernel_rfl
theorem s25 : Sound κ Try.prog C25 25 := fn_sound (S := (tabL [])) (F := Try.f25) (code := bodyOf Try.f25) (by kernel_rfl) g25 Try.func25 (by kernel_rfl) (by kernel_rfl) (by kernel_rfl) lall25 (by kernel_rfl) (by kernel_rfl) fun x y h => (e25 x).symm.trans h
end Go.Proofs.Ytnlajjeppdchiaa.E
namespace Go.Proofs.Ytnlajjeppdchiaa.E
open Go
set_option linter.unusedVariables false
set_option maxRecDepth 100000
abbrev A24 : Type := ((List T65 × Unit) × T65 × Unit)
abbrev B24 : Type := ((List T65 × Unit) × Unit)
def i24 : Fr τ A24 := (.ptr 0 (some 60) 62 (.own 65 .nil) (.val 1 (.box 65 65) .nil))
def o24 : Fr τ B24 := (.ptr 0 (some 60) 62 (.own 65 .nil) .nil)
def G24 (c34 : A34 → Option B34) (c69 : A69 → Option B69) (c25 : A25 → Option B25) : Nat → Option (Ctr τ) := tabG [(34, (⟨i34, o34, c34⟩ : Ctr τ)), (69, (⟨i69, o69, c69⟩ : Ctr τ)), (25, (⟨i25, o25, c25⟩ : Ctr τ))]
def M24 (c34 : A34 → Option B34) (c69 : A69 → Option B69) (c25 : A25 → Option B25) : A24 → Option B24 := fun ⟨⟨h', ()⟩, ⟨⟨x'_0, x'_1⟩, ()⟩⟩ => ((c69 ((h', ()), ((x'_0, x'_1), ()))).bind fun ⟨⟨y0, ()⟩, ()⟩ => ((c25 (y0, ())).bind fun ⟨y1_0, ⟨y1_1, ()⟩⟩ => (let v0 : Int := y1_0 - 1; let v1 : Int := IntKind.wrap IntKind.i64 v0; (c34 ((y1_1, ()), (v1, ()))).bind fun ⟨⟨y2, ()⟩, ()⟩ => (some ((y2, ()), ())))))
def N24 : A24 → Option B24 := M24 N34 N69 N25
def C24 : Ctr τ := ⟨i24, o24, N24⟩
theorem g24 : GOK κ Try.prog (G24 N34 N69 N25) := (gok_cons s34 (gok_cons s69 (gok_cons s25 gok_nil)))
theorem lall24 : ∀ Z : Zn, Z.rl = C24.o.keeps → Try.f24.ntmps ≤ Z.nt → ∀ p ∈ loops 0 (bodyOf Try.f24), ∀ C, (tabL []) p.1 = some C → LoopOK κ Try.prog Z p.2 C := fun Z h n => fun p hp => (by cases (show p ∈ ([] : List (Nat × Code)) from hp))
theorem e24 : ∀ (c34 : A34 → Option B34) (c69 : A69 → Option B69) (c25 : A25 → Option B25) x, M24 c34 c69 c25 x = fnE Try.prog κ (G24 c34 c69 c25) (tabL []) Try.f24 i24 o24 x := fun c34 c69 c25 x => by kernel_rfl
theorem s24 : Sound κ Try.prog C24 24 := fn_sound (S := (tabL [])) (F := Try.f24) (code := bodyOf Try.f24) (by kernel_rfl) g24 Try.func24 (by kernel_rfl) (by kernel_rfl) (by kernel_rfl) lall24 (by kernel_rfl) (by kernel_rfl) fun x y h => (e24 N34 N69 N25 x).symm.trans h
end Go.Proofs.Ytnlajjeppdchiaa.E
namespace Go.Proofs.Ytnlajjeppdchiaa.E
open Go
set_option linter.unusedVariables false
set_option maxRecDepth 100000
abbrev A31 : Type := (((List T27) × (List T3 × ((List T65 × Unit) × Unit))) × Int × Unit)
abbrev B31 : Type := (((List T27) × (List T3 × ((List T65 × Unit) × Unit))) × Unit)
def i31 : Fr τ A31 := (.ptr 0 none 76 (.val (.sl 27) (.own 3 (.ptr 62 (.own 65 .nil) .nil))) (.val 1 (.int .i64) .nil))
def o31 : Fr τ B31 := (.ptr 0 none 76 (.val (.sl 27) (.own 3 (.ptr 62 (.own 65 .nil) .nil))) .nil)
def G31 (c24 : A24 → Option B24) : Nat → Option (Ctr τ) := tabG [(24, (⟨i24, o24, c24⟩ : Ctr τ))]
def M31 (c24 : A24 → Option B24) : A31 → Option B31 := fun ⟨⟨l'_0, ⟨l'_1, ⟨⟨l'_2, ()⟩, ()⟩⟩⟩, ⟨i', ()⟩⟩ => (let v0 : Int := ↑(List.length l'_1); (bif decide (0 ≤ i') && decide (i' < v0) then some () else none).bind fun () => ((l'_1[Int.toNat i']?).bind fun y1 => ((bif decide (0 ≤ i') then l'_0[Int.toNat i']? else none).bind fun ⟨y2_0, ⟨y2_1, y2_2⟩⟩ => (let v1 : Int := y1 + 1; let v2 : Int := IntKind.wrap IntKind.i64 v1; let v3 : Int := ↑(List.length y2_2); bif decide (v2 < v3) then ((bif decide (0 ≤ i') then l'_0[Int.toNat i']? else none).bind fun ⟨y4_0, ⟨y4_1, y4_2⟩⟩ => ((bif decide (0 ≤ v2) then y4_2[Int.toNat v2]? else none).bind fun ⟨y5_0, ⟨⟨y5_1, y5_2⟩, ⟨⟨y5_3, y5_4⟩, ⟨y5_5, y5_6⟩⟩⟩⟩ => ((c24 ((l'_2, ()), ((y5_0, i'), ()))).bind fun ⟨⟨y6, ()⟩, ()⟩ => (some ((l'_0, (l'_1, ((y6, ()), ()))), ()))))) else (some ((l'_0, (l'_1, ((l'_2, ()), ()))), ()))))))
def N31 : A31 → Option B31 := M31 N24
def C31 : Ctr τ := ⟨i31, o31, N31⟩
theorem g31 : GOK κ Try.prog (G31 N24) := (gok_cons s24 gok_nil)
theorem lall31 : ∀ Z : Zn, Z.rl = C31.o.keeps → Try.f31.ntmps ≤ Z.nt → ∀ p ∈ loops 0 (bodyOf Try.f31), ∀ C, (tabL []) p.1 = some C → LoopOK κ Try.prog Z p.2 C := fun Z h n => fun p hp => (by cases (show p ∈ ([] : List (Nat × Code)) from hp))
theorem e31 : ∀ (c24 : A24 → Option B24) x, M31 c24 x = fnE Try.prog κ (G31 c24) (tabL []) Try.f31 i31 o31 x := fun c24 x => by kernel_rfl
theorem s31 : Sound κ Try.prog C31 31 := fn_sound (S := (tabL [])) (F := Try.f31) (code := bodyOf Try.f31) (by kernel_rfl) g31 Try.func31 (by kernel_rfl) (by kernel_rfl) (by kernel_rfl) lall31 (by kernel_rfl) (by kernel_rfl) fun x y h => (e31 N24 x).symm.trans h
end Go.Proofs.Ytnlajjeppdchiaa.E
namespace Go.Proofs.Ytnlajjeppdchiaa.E
open Go
set_option linter.unusedVariables false
set_option maxRecDepth 100000
abbrev A19 : Type := ((List T27) × Unit)
abbrev B19 : Type := (((List T27) × (List T3 × ((List T65 × Unit) × Unit))) × Unit)
def i19 : Fr τ A19 := (.val 0 (.sl 27) .nil)
def o19 : Fr τ B19 := (.ptr 1000 none 76 (.val (.sl 27) (.own 3 (.ptr 62 (.own 65 .nil) .nil))) .nil)
def G19 (c31 : A31 → Option B31) : Nat → Option (Ctr τ) := tabG [(31, (⟨i31, o31, c31⟩ : Ctr τ))]
abbrev LA19_0 : Type := (((List T27) × (List T3 × ((List T65 × Unit) × Unit))) × Int × Int × Unit)
abbrev LB19_0 : Type := (((List T27) × (List T3 × ((List T65 × Unit) × Unit))) × Unit)
def li19_0 : Fr τ LA19_0 := (.ptr 3 none 76 (.val (.sl 27) (.own 3 (.ptr 62 (.own 65 .nil) .nil))) (.val 14 (.int .i64) (.val 15 (.int .i64) .nil)))
def lo19_0 : Ot τ LB19_0 := .one (.exit 0) (.ptr 3 none 76 (.val (.sl 27) (.own 3 (.ptr 62 (.own 65 .nil) .nil))) .nil)
def Q19_0 (c31 : A31 → Option B31) : LA19_0 → Option (LA19_0 ⊕ LB19_0) := fun ⟨⟨l'_0, ⟨l'_1, ⟨⟨l'_2, ()⟩, ()⟩⟩⟩, ⟨t14', ⟨t15', ()⟩⟩⟩ => (bif decide (t15' < t14') then (let v0 : Int := ↑(List.length l'_1); (bif decide (0 ≤ t15') && decide (t15' < v0) then some () else none).bind fun () => ((((l'_1[Int.toNat t15']?).bind fun y42 => (some (-1))) : (Option Int)).bind fun y2 => ((c31 ((l'_0, (List.set l'_1 (Int.toNat t15') y2, ((l'_2, ()), ()))), (t15', ()))).bind fun ⟨⟨y3_0, ⟨y3_1, ⟨⟨y3_2, ()⟩, ()⟩⟩⟩, ()⟩ => (let v1 : Int := t15' + 1; let v2 : Int := IntKind.wrap IntKind.i64 v1; some (.inl ((y3_0, (y3_1, ((y3_2, ()), ()))), (t14', (v2, ())))))))) else (some (.inr ((l'_0, (l'_1, ((l'_2, ()), ()))), ()))))
def R19_0 : LA19_0 → Option (LA19_0 ⊕ LB19_0) := Q19_0 N31
def L19_0 : Lc τ := ⟨li19_0, itrs R19_0, lo19_0⟩
def M19 (c31 : A31 → Option B31) (l19_0 : LA19_0 → Option LB19_0) : A19 → Option B19 := fun ⟨tables', ()⟩ => (let v0 : Int := ↑(List.length tables'); (bif true && decide (v0 = v0) && decide (Int.toNat v0 * 8 ≤ 140737488355328) && decide (v0 ≤ 9223372036854775807) then some () else none).bind fun () => ((l19_0 ((tables', (List.replicate (Int.toNat v0) (0 : Int), (([], ()), ()))), (v0, (0, ())))).bind fun ⟨⟨y1_0, ⟨y1_1, ⟨⟨y1_2, ()⟩, ()⟩⟩⟩, ()⟩ => (some ((y1_0, (y1_1, ((y1_2, ()), ()))), ()))))
def N19 : A19 → Option B19 := M19 N31 (itrs R19_0)
def C19 : Ctr τ := ⟨i19, o19, N19⟩
theorem g19 : GOK κ Try.prog (G19 N31) := (gok_cons s31 gok_nil)
theorem le19_0 : ∀ (c31 : A31 → Option B31) x, Q19_0 c31 x = run Try.prog κ (G19 c31) (tabL []) 0 (loopAt Try.f19 0) (li19_0.build x) (rnd li19_0 lo19_0) := fun c31 x => by kernel_rfl
theorem linner19_0 : ∀ Z : Zn, Z.rl = [] → 29 ≤ Z.nt → ∀ p ∈ loops 0 (loopAt Try.f19 0), ∀ C, (tabL []) p.1 = some C → LoopOK κ Try.prog Z p.2 C := fun Z h n => fun p hp => (by cases (show p ∈ ([] : List (Nat × Code)) from hp))
theorem lk19_0 : ∀ Z : Zn, Z.rl = [] → 29 ≤ Z.nt → LoopOK κ Try.prog Z (loopAt Try.f19 0) L19_0 := fun Z h n => loop_ok (S := (tabL [])) R19_0 (by kernel_rfl) g19 (by rw [h]; exact dsts_mono n _ (by kernel_rfl)) (linner19_0 Z h n) (by kernel_rfl) (by kernel_rfl) (le19_0 N31) itrs_rounds
theorem lall19 : ∀ Z : Zn, Z.rl = C19.o.keeps → Try.f19.ntmps ≤ Z.nt → ∀ p ∈ loops 0 (bodyOf Try.f19), ∀ C, (tabL [(0, L19_0)]) p.1 = some C → LoopOK κ Try.prog Z p.2 C := fun Z h n => all_loops [(0, loopAt Try.f19 0)] (by kernel_rfl) (all_cons (fun C hC => (Option.some.inj hC : L19_0 = C) ▸ lk19_0 Z h n) (fun _ h => by cases h))
theorem e19 : ∀ (c31 : A31 → Option B31) (l19_0 : LA19_0 → Option LB19_0) x, M19 c31 l19_0 x = fnE Try.prog κ (G19 c31) (tabL [(0, (⟨li19_0, l19_0, lo19_0⟩ : Lc τ))]) Try.f19 i19 o19 x := fun c31 l19_0 x => by kernel_rfl
theorem s19 : Sound κ Try.prog C19 19 := fn_sound (S := (tabL [(0, L19_0)])) (F := Try.f19) (code := bodyOf Try.f19) (by kernel_rfl) g19 Try.func19 (by kernel_rfl) (by kernel_rfl) (by kernel_rfl) lall19 (by kernel_rfl) (by kernel_rfl) fun x y h => (e19 N31 (itrs R19_0) x).symm.trans h
end Go.Proofs.Ytnlajjeppdchiaa.E
namespace Go.Proofs.Ytnlajjeppdchiaa.E
open Go
set_option linter.unusedVariables false
set_option maxRecDepth 100000
abbrev A35 : Type := ((List T65 × Unit) × Int × Int × Unit)
abbrev B35 : Type := (Bool × (List T65 × Unit) × Unit)
def i35 : Fr τ A35 := (.ptr 0 (some 60) 62 (.own 65 .nil) (.val 1 (.int .i64) (.val 2 (.int .i64) .nil)))
def o35 : Fr τ B35 := (.val 1000 .bool (.ptr 0 (some 60) 62 (.own 65 .nil) .nil))
def G35 (c67 : A67 → Option B67) (c70 : A70 → Option B70) : Nat → Option (Ctr τ) := tabG [(67, (⟨i67, o67, c67⟩ : Ctr τ)), (70, (⟨i70, o70, c70⟩ : Ctr τ))]
abbrev LA35_0 : Type := ((List T65 × Unit) × Int × Int × Int × Unit)
abbrev LB35_0 : Type := ((List T65 × Unit) × Int × Int × Unit)
def li35_0 : Fr τ LA35_0 := (.ptr 0 (some 60) 62 (.own 65 .nil) (.val 1 (.int .i64) (.val 2 (.int .i64) (.val 7 (.int .i64) .nil))))
def lo35_0 : Ot τ LB35_0 := .one (.exit 0) (.ptr 0 (some 60) 62 (.own 65 .nil) (.val 1 (.int .i64) (.val 7 (.int .i64) .nil)))
def Q35_0 (c67 : A67 → Option B67) (c70 : A70 → Option B70) : LA35_0 → Option (LA35_0 ⊕ LB35_0) := fun ⟨⟨h', ()⟩, ⟨i0', ⟨n', ⟨i', ()⟩⟩⟩⟩ => (let v0 : Int := 2 * i'; let v1 : Int := IntKind.wrap IntKind.i64 v0; let v2 : Int := v1 + 1; let v3 : Int := IntKind.wrap IntKind.i64 v2; bif decide (v3 ≥ n') then (some (.inr ((h', ()), (i0', (i', ()))))) else (bif decide (v3 < 0) then (some (.inr ((h', ()), (i0', (i', ()))))) else (let v4 : Int := v3 + 1; let v5 : Int := IntKind.wrap IntKind.i64 v4; bif decide (v5 < n') then ((c67 (h', (v5, (v3, ())))).bind fun ⟨y3_0, ⟨y3_1, ()⟩⟩ => (bif y3_0 then ((c67 (y3_1, (v5, (i', ())))).bind fun ⟨y5_0, ⟨y5_1, ()⟩⟩ => (bif !y5_0 then (some (.inr ((y5_1, ()), (i0', (i', ()))))) else ((c70 (y5_1, (i', (v5, ())))).bind fun ⟨y7, ()⟩ => (some (.inl ((y7, ()), (i0', (n', (v5, ()))))))))) else ((c67 (y3_1, (v3, (i', ())))).bind fun ⟨y5_0, ⟨y5_1, ()⟩⟩ => (bif !y5_0 then (some (.inr ((y5_1, ()), (i0', (i', ()))))) else ((c70 (y5_1, (i', (v3, ())))).bind fun ⟨y7, ()⟩ => (some (.inl ((y7, ()), (i0', (n', (v3, ()))))))))))) else ((c67 (h', (v3, (i', ())))).bind fun ⟨y3_0, ⟨y3_1, ()⟩⟩ => (bif !y3_0 then (some (.inr ((y3_1, ()), (i0', (i', ()))))) else ((c70 (y3_1, (i', (v3, ())))).bind fun ⟨y5, ()⟩ => (some (.inl ((y5, ()), (i0', (n', (v3, ()))))))))))))
def R35_0 : LA35_0 → Option (LA35_0 ⊕ LB35_0) := Q35_0 N67 N70
def L35_0 : Lc τ := ⟨li35_0, itrs R35_0, lo35_0⟩
def M35 (c67 : A67 → Option B67) (c70 : A70 → Option B70) (l35_0 : LA35_0 → Option LB35_0) : A35 → Option B35 := fun ⟨⟨h', ()⟩, ⟨i0', ⟨n', ()⟩⟩⟩ => ((l35_0 ((h', ()), (i0', (n', (i0', ()))))).bind fun ⟨⟨y0_0, ()⟩, ⟨y0_1, ⟨y0_2, ()⟩⟩⟩ => (some (decide (y0_2 > y0_1), ((y0_0, ()), ()))))
def N35 : A35 → Option B35 := M35 N67 N70 (itrs R35_0)
def C35 : Ctr τ := ⟨i35, o35, N35⟩
theorem g35 : GOK κ Try.prog (G35 N67 N70) := (gok_cons s67 (gok_cons s70 gok_nil))
theorem le35_0 : ∀ (c67 : A67 → Option B67) (c70 : A70 → Option B70) x, Q35_0 c67 c70 x = run Try.prog κ (G35 c67 c70) (tabL []) 0 (loopAt Try.f35 0) (li35_0.build x) (rnd li35_0 lo35_0) := fun c67 c70 x => by kernel_rfl
theorem linner35_0 : ∀ Z : Zn, Z.rl = [0] → 48 ≤ Z.nt → ∀ p ∈ loops 0 (loopAt Try.f35 0), ∀ C, (tabL []) p.1 = some C → LoopOK κ Try.prog Z p.2 C := fun Z h n => fun p hp => (by cases (show p ∈ ([] : List (Nat × Code)) from hp))
theorem lk35_0 : ∀ Z : Zn, Z.rl = [0] → 48 ≤ Z.nt → LoopOK κ Try.prog Z (loopAt Try.f35 0) L35_0 := fun Z h n => loop_ok (S := (tabL [])) R35_0 (by kernel_rfl) g35 (by rw [h]; exact dsts_mono n _ (by kernel_rfl)) (linner35_0 Z h n) (by kernel_rfl) (by kernel_rfl) (le35_0 N67 N70) itrs_rounds
theorem lall35 : ∀ Z : Zn, Z.rl = C35.o.keeps → Try.f35.ntmps ≤ Z.nt → ∀ p ∈ loops 0 (bodyOf Try.f35), ∀ C, (tabL [(0, L35_0)]) p.1 = some C → LoopOK κ Try.prog Z p.2 C := fun Z h n => all_loops [(0, loopAt Try.f35 0)] (by kernel_rfl) (all_cons (fun C hC => (Option.some.inj hC : L35_0 = C) ▸ lk35_0 Z h n) (fun _ h => by cases h))
theorem e35 : ∀ (c67 : A67 → Option B67) (c70 : A70 → Option B70) (l35_0 : LA35_0 → Option LB35_0) x, M35 c67 c70 l35_0 x = fnE Try.prog κ (G35 c67 c70) (tabL [(0, (⟨li35_0, l35_0, lo35_0⟩ : Lc τ))]) Try.f35 i35 o35 x := fun c67 c70 l35_0 x => by kernel_rfl
theorem s35 : Sound κ Try.prog C35 35 := fn_sound (S := (tabL [(0, L35_0)])) (F := Try.f35) (code := bodyOf Try.f35) (by kernel_rfl) g35 Try.func35 (by kernel_rfl) (by kernel_rfl) (by kernel_rfl) lall35 (by kernel_rfl) (by kernel_rfl) fun x y h => (e35 N67 N70 (itrs R35_0) x).symm.trans h
end Go.Proofs.Ytnlajjeppdchiaa.E
namespace Go.Proofs.Ytnlajjeppdchiaa.E
open Go
set_option linter.unusedVariables false
set_option maxRecDepth 100000
abbrev A68 : Type := ((List T65 × Unit) × Unit)
abbrev B68 : Type := (T65 × (List T65 × Unit) × Unit)
def i68 : Fr τ A68 := (.ptr 0 none 62 (.own 65 .nil) .nil)
def o68 : Fr τ B68 := (.val 1000 (.box 65 65) (.ptr 0 none 62 (.own 65 .nil) .nil))
def G68 : Nat → Option (Ctr τ) := tabG []
def M68 : A68 → Option B68 := fun ⟨⟨q', ()⟩, ()⟩ => (let v0 : Int := ↑(List.length q'); let v1 : Int := v0 - 1; let v2 : Int := IntKind.wrap IntKind.i64 v1; (bif decide (0 ≤ v2) && decide (v2 < v0) then some () else none).bind fun () => ((q'[Int.toNat v2]?).bind fun ⟨y1_0, y1_1⟩ => ((bif true && decide (0 ≤ v2) && decide (v2 ≤ v0) then some () else none).bind fun () => ((bif Nat.ble (Int.toNat v2 - 0) (List.length q') then some () else none).bind fun () => (some ((y1_0, y1_1), ((List.take (Int.toNat v2 - 0) q', ()), ())))))))
def N68 : A68 → Option B68 := M68
def C68 : Ctr τ := ⟨i68, o68, N68⟩
theorem g68 : GOK κ Try.prog (G68) := gok_nil
theorem lall68 : ∀ Z : Zn, Z.rl = C68.o.keeps → Try.f68.ntmps ≤ Z.nt → ∀ p ∈ loops 0 (bodyOf Try.f68), ∀ C, (tabL []) p.1 = some C → LoopOK κ Try.prog Z p.2 C := fun Z h n => fun p hp => (by cases (show p ∈ ([] : List (Nat × Code)) from hp))
theorem e68 : ∀ x, M68 x = fnE Try.prog κ (G68) (tabL []) Try.f68 i68 o68 x := fun x => by kernel_rfl
theorem s68 : Sound κ Try.prog C68 68 := fn_sound (S := (tabL [])) (F := Try.f68) (code := bodyOf Try.f68) (by kernel_rfl) g68 Try.func68 (by kernel_rfl) (by kernel_rfl) (by kernel_rfl) lall68 (by kernel_rfl) (by kernel_rfl) fun x y h => (e68 x).symm.trans h
end Go.Proofs.Ytnlajjeppdchiaa.E
namespace Go.Proofs.Ytnlajjeppdchiaa.E
open Go
set_option linter.unusedVariables false
set_option maxRecDepth 100000
abbrev A26 : Type := ((List T65 × Unit) × Unit)
abbrev B26 : Type := (T65 × (List T65 × Unit) × Unit)
def i26 : Fr τ A26 := (.ptr 0 (some 60) 62 (.own 65 .nil) .nil)
def o26 : Fr τ B26 := (.val 1000 (.box 65 65) (.ptr 0 (some 60) 62 (.own 65 .nil) .nil))
def G26 (c35 : A35 → Option B35) (c68 : A68 → Option B68) (c25 : A25 → Option B25) (c70 : A70 → Option B70) : Nat → Option (Ctr τ) := tabG [(35, (⟨i35, o35, c35⟩ : Ctr τ)), (68, (⟨i68, o68, c68⟩ : Ctr τ)), (25, (⟨i25, o25, c25⟩ : Ctr τ)), (70, (⟨i70, o70, c70⟩ : Ctr τ))]
def M26 (c35 : A35 → Option B35) (c68 : A68 → Option B68) (c25 : A25 → Option B25) (c70 : A70 → Option B70) : A26 → Option B26 := fun ⟨⟨h', ()⟩, ()⟩ => ((c25 (h', ())).bind fun ⟨y0_0, ⟨y0_1, ()⟩⟩ => (let v0 : Int := y0_0 - 1; let v1 : Int := IntKind.wrap IntKind.i64 v0; (c70 (y0_1, (0, (v1, ())))).bind fun ⟨y1, ()⟩ => ((c35 ((y1, ()), (0, (v1, ())))).bind fun ⟨y2_0, ⟨⟨y2_1, ()⟩, ()⟩⟩ => ((c68 ((y2_1, ()), ())).bind fun ⟨⟨y3_0, y3_1⟩, ⟨⟨y3_2, ()⟩, ()⟩⟩ => (some ((y3_0, y3_1), ((y3_2, ()), ())))))))
def N26 : A26 → Option B26 := M26 N35 N68 N25 N70
def C26 : Ctr τ := ⟨i26, o26, N26⟩
theorem g26 : GOK κ Try.prog (G26 N35 N68 N25 N70) := (gok_cons s35 (gok_cons s68 (gok_cons s25 (gok_cons s70 gok_nil))))
theorem lall26 : ∀ Z : Zn, Z.rl = C26.o.keeps → Try.f26.ntmps ≤ Z.nt → ∀ p ∈ loops 0 (bodyOf Try.f26), ∀ C, (tabL []) p.1 = some C → LoopOK κ Try.prog Z p.2 C := fun Z h n => fun p hp => (by cases (show p ∈ ([] : List (Nat × Code)) from hp))
theorem e26 : ∀ (c35 : A35 → Option B35) (c68 : A68 → Option B68) (c25 : A25 → Option B25) (c70 : A70 → Option B70) x, M26 c35 c68 c25 c70 x = fnE Try.prog κ (G26 c35 c68 c25 c70) (tabL []) Try.f26 i26 o26 x := fun c35 c68 c25 c70 x => by kernel_rfl
theorem s26 : Sound κ Try.prog C26 26 := fn_sound (S := (tabL [])) (F := Try.f26) (code := bodyOf Try.f26) (by kernel_rfl) g26 Try.func26 (by kernel_rfl) (by kernel_rfl) (by kernel_rfl) lall26 (by kernel_rfl) (by kernel_rfl) fun x y h => (e26 N35 N68 N25 N70 x).symm.trans h
end Go.Proofs.Ytnlajjeppdchiaa.E
namespace Go.Proofs.Ytnlajjeppdchiaa.E
open Go
set_option linter.unusedVariables false
set_option maxRecDepth 100000
abbrev A20 : Type := (((List T27) × (List T3 × ((List T65 × Unit) × Unit))) × Unit)
abbrev B20 : Type := (Int × Bool × ((List T27) × (List T3 × ((List T65 × Unit) × Unit))) × Unit)
def i20 : Fr τ A20 := (.ptr 0 none 76 (.val (.sl 27) (.own 3 (.ptr 62 (.own 65 .nil) .nil))) .nil)
def o20 : Fr τ B20 := (.val 1000 (.int .i64) (.val 1001 .bool (.ptr 0 none 76 (.val (.sl 27) (.own 3 (.ptr 62 (.own 65 .nil) .nil))) .nil)))
def G20 (c25 : A25 → Option B25) (c26 : A26 → Option B26) (c31 : A31 → Option B31) : Nat → Option (Ctr τ) := tabG [(25, (⟨i25, o25, c25⟩ : Ctr τ)), (26, (⟨i26, o26, c26⟩ : Ctr τ)), (31, (⟨i31, o31, c31⟩ : Ctr τ))]
abbrev LA20_0 : Type := (((List T27) × (List T3 × ((List T65 × Unit) × Unit))) × Int × Unit)
abbrev LB20_0 : Type := (((List T27) × (List T3 × ((List T65 × Unit) × Unit))) × Int × Unit)
def li20_0 : Fr τ LA20_0 := (.ptr 0 none 76 (.val (.sl 27) (.own 3 (.ptr 62 (.own 65 .nil) .nil))) (.val 4 (.int .i64) .nil))
def lo20_0 : Ot τ LB20_0 := .one (.exit 0) (.ptr 0 none 76 (.val (.sl 27) (.own 3 (.ptr 62 (.own 65 .nil) .nil))) (.val 4 (.int .i64) .nil))
def Q20_0 (c25 : A25 → Option B25) (c26 : A26 → Option B26) (c31 : A31 → Option B31) : LA20_0 → Option (LA20_0 ⊕ LB20_0) := fun ⟨⟨l'_0, ⟨l'_1, ⟨⟨l'_2, ()⟩, ()⟩⟩⟩, ⟨from', ()⟩⟩ => ((c25 (l'_2, ())).bind fun ⟨y0_0, ⟨y0_1, ()⟩⟩ => (bif decide (y0_0 > 0) then (let v0 : Int := ↑(List.length y0_1); (bif true && decide (0 < v0) then some () else none).bind fun () => ((y0_1[0]?).bind fun ⟨y3_0, y3_1⟩ => (bif y3_0 == from' then ((c26 ((y0_1, ()), ())).bind fun ⟨⟨y5_0, y5_1⟩, ⟨⟨y5_2, ()⟩, ()⟩⟩ => (let v1 : Int := ↑(List.length l'_1); (bif decide (0 ≤ y5_1) && decide (y5_1 < v1) then some () else none).bind fun () => ((l'_1[Int.toNat y5_1]?).bind fun y7 => ((bif decide (0 ≤ y5_1) && decide (y5_1 < v1) then some () else none).bind fun () => ((((l'_1[Int.toNat y5_1]?).bind fun y49 => (let v2 : Int := y7 + 1; let v3 : Int := IntKind.wrap IntKind.i64 v2; some v3)) : (Option Int)).bind fun y9 => ((c31 ((l'_0, (List.set l'_1 (Int.toNat y5_1) y9, ((y5_2, ()), ()))), (y5_1, ()))).bind fun ⟨⟨y10_0, ⟨y10_1, ⟨⟨y10_2, ()⟩, ()⟩⟩⟩, ()⟩ => (some (.inl ((y10_0, (y10_1, ((y10_2, ()), ()))), (from', ())))))))))) else (some (.inr ((l'_0, (l'_1, ((y0_1, ()), ()))), (from', ()))))))) else (some (.inr ((l'_0, (l'_1, ((y0_1, ()), ()))), (from', ()))))))
def R20_0 : LA20_0 → Option (LA20_0 ⊕ LB20_0) := Q20_0 N25 N26 N31
def L20_0 : Lc τ := ⟨li20_0, itrs R20_0, lo20_0⟩
def M20 (c25 : A25 → Option B25) (c26 : A26 → Option B26) (c31 : A31 → Option B31) (l20_0 : LA20_0 → Option LB20_0) : A20 → Option B20 := fun ⟨⟨l'_0, ⟨l'_1, ⟨⟨l'_2, ()⟩, ()⟩⟩⟩, ()⟩ => ((c25 (l'_2, ())).bind fun ⟨y0_0, ⟨y0_1, ()⟩⟩ => (bif y0_0 == 0 then (some (0, (false, ((l'_0, (l'_1, ((y0_1, ()), ()))), ())))) else (let v0 : Int := ↑(List.length y0_1); (bif true && decide (0 < v0) then some () else none).bind fun () => ((y0_1[0]?).bind fun ⟨y3_0, y3_1⟩ => ((l20_0 ((l'_0, (l'_1, ((y0_1, ()), ()))), (y3_0, ()))).bind fun ⟨⟨y4_0, ⟨y4_1, ⟨⟨y4_2, ()⟩, ()⟩⟩⟩, ⟨y4_3, ()⟩⟩ => (some (y4_3, (true, ((y4_0, (y4_1, ((y4_2, ()), ()))), ())))))))))
def N20 : A20 → Option B20 := M20 N25 N26 N31 (itrs R20_0)
def C20 : Ctr τ := ⟨i20, o20, N20⟩
theorem g20 : GOK κ Try.prog (G20 N25 N26 N31) := (gok_cons s25 (gok_cons s26 (gok_cons s31 gok_nil)))
theorem le20_0 : ∀ (c25 : A25 → Option B25) (c26 : A26 → Option B26) (c31 : A31 → Option B31) x, Q20_0 c25 c26 c31 x = run Try.prog κ (G20 c25 c26 c31) (tabL []) 0 (loopAt Try.f20 0) (li20_0.build x) (rnd li20_0 lo20_0) := fun c25 c26 c31 x => by kernel_rfl
theorem linner20_0 : ∀ Z : Zn, Z.rl = [0] → 66 ≤ Z.nt → ∀ p ∈ loops 0 (loopAt Try.f20 0), ∀ C, (tabL []) p.1 = some C → LoopOK κ Try.prog Z p.2 C := fun Z h n => fun p hp => (by cases (show p ∈ ([] : List (Nat × Code)) from hp))
theorem lk20_0 : ∀ Z : Zn, Z.rl = [0] → 66 ≤ Z.nt → LoopOK κ Try.prog Z (loopAt Try.f20 0) L20_0 := fun Z h n => loop_ok (S := (tabL [])) R20_0 (by kernel_rfl) g20 (by rw [h]; exact dsts_mono n _ (by kernel_rfl)) (linner20_0 Z h n) (by kernel_rfl) (by kernel_rfl) (le20_0 N25 N26 N31) itrs_rounds
theorem lall20 : ∀ Z : Zn, Z.rl = C20.o.keeps → Try.f20.ntmps ≤ Z.nt → ∀ p ∈ loops 0 (bodyOf Try.f20), ∀ C, (tabL [(0, L20_0)]) p.1 = some C → LoopOK κ Try.prog Z p.2 C := fun Z h n => all_loops [(0, loopAt Try.f20 0)] (by kernel_rfl) (all_cons (fun C hC => (Option.some.inj hC : L20_0 = C) ▸ lk20_0 Z h n) (fun _ h => by cases h))
theorem e20 : ∀ (c25 : A25 → Option B25) (c26 : A26 → Option B26) (c31 : A31 → Option B31) (l20_0 : LA20_0 → Option LB20_0) x, M20 c25 c26 c31 l20_0 x = fnE Try.prog κ (G20 c25 c26 c31) (tabL [(0, (⟨li20_0, l20_0, lo20_0⟩ : Lc τ))]) Try.f20 i20 o20 x := fun c25 c26 c31 l20_0 x => by kernel_rfl
theorem s20 : Sound κ Try.prog C20 20 := fn_sound (S := (tabL [(0, L20_0)])) (F := Try.f20) (code := bodyOf Try.f20) (by kernel_rfl) g20 Try.func20 (by kernel_rfl) (by kernel_rfl) (by kernel_rfl) lall20 (by kernel_rfl) (by kernel_rfl) fun x y h => (e20 N25 N26 N31 (itrs R20_0) x).symm.trans h
end Go.Proofs.Ytnlajjeppdchiaa.E
namespace Go.Proofs.Ytnlajjeppdchiaa.E
open Go
set_option linter.unusedVariables false
set_option maxRecDepth 100000
abbrev A16 : Type := ((List T39) × Unit)
abbrev B16 : Type := ((Int × Int) × Int × Unit)
def i16 : Fr τ A16 := (.val 0 (.sl 39) .nil)
def o16 : Fr τ B16 := (.val 1000 (.pair (.int .i64) (.int .u64)) (.val 1001 (.int .i64) .nil))
def G16 (c30 : (Int × Int × Int × Unit) → Option (Int × Int × Unit)) : Nat → Option (Ctr τ) := tabG [(30, ({ (cAdd64 (τ := τ)) with f := c30 } : Ctr τ))]
abbrev LA16_0 : Type := ((Int × (Int × Unit)) × Int × Int × Int × (List T39) × Int × Int × Unit)
abbrev LB16_0 : Type := ((Int × (Int × Unit)) × Int × Int × Int × Unit)
def li16_0 : Fr τ LA16_0 := (.ptr 2 none 39 (.val (.int .i64) (.val (.int .u64) .nil)) (.val 4 (.int .u64) (.val 5 (.int .u64) (.val 6 (.int .i64) (.val 11 (.sl 39) (.val 12 (.int .i64) (.val 13 (.int .i64) .nil)))))))
def lo16_0 : Ot τ LB16_0 := .one (.exit 0) (.ptr 2 none 39 (.val (.int .i64) (.val (.int .u64) .nil)) (.val 4 (.int .u64) (.val 5 (.int .u64) (.val 6 (.int .i64) .nil))))
def Q16_0 (c30 : (Int × Int × Int × Unit) → Option (Int × Int × Unit)) : LA16_0 → Option (LA16_0 ⊕ LB16_0) := fun ⟨⟨t2'_0, ⟨t2'_1, ()⟩⟩, ⟨lo', ⟨hi', ⟨top', ⟨t11', ⟨t12', ⟨t13', ()⟩⟩⟩⟩⟩⟩⟩ => (bif decide (t13' < t12') then ((bif decide (0 ≤ t13') then t11'[Int.toNat t13']? else none).bind fun ⟨y1_0, y1_1⟩ => ((c30 (lo', (y1_1, (0, ())))).bind fun ⟨y2_0, ⟨y2_1, ()⟩⟩ => (let v0 : Int := IntKind.wrap IntKind.u64 y1_0; (c30 (hi', (v0, (y2_1, ())))).bind fun ⟨y3_0, ⟨y3_1, ()⟩⟩ => (let v1 : Int := Int.fdiv y1_0 9223372036854775808; let v2 : Int := IntKind.wrap IntKind.i64 y3_1; let v3 : Int := v1 + v2; let v4 : Int := IntKind.wrap IntKind.i64 v3; let v5 : Int := top' + v4; let v6 : Int := IntKind.wrap IntKind.i64 v5; let v7 : Int := t13' + 1; let v8 : Int := IntKind.wrap IntKind.i64 v7; some (.inl ((t2'_0, (t2'_1, ())), (y2_0, (y3_0, (v6, (t11', (t12', (v8, ())))))))))))) else (some (.inr ((t2'_0, (t2'_1, ())), (lo', (hi', (top', ())))))))
def R16_0 : LA16_0 → Option (LA16_0 ⊕ LB16_0) := Q16_0 (cAdd64 (τ := τ)).f
def L16_0 : Lc τ := ⟨li16_0, itrs R16_0, lo16_0⟩
def M16 (c30 : (Int × Int × Int × Unit) → Option (Int × Int × Unit)) (l16_0 : LA16_0 → Option LB16_0) : A16 → Option B16 := fun ⟨list', ()⟩ => (let v0 : Int := ↑(List.length list'); (l16_0 ((0, (0, ())), (0, (0, (0, (list', (v0, (0, ())))))))).bind fun ⟨⟨y0_0, ⟨y0_1, ()⟩⟩, ⟨y0_2, ⟨y0_3, ⟨y0_4, ()⟩⟩⟩⟩ => (let v1 : Int := IntKind.wrap IntKind.i64 y0_3; let v2 : Int := Int.fdiv v1 9223372036854775808; bif y0_4 != v2 then (some ((0, 0), (10, ()))) else (some ((v1, y0_2), (0, ())))))
def N16 : A16 → Option B16 := M16 (cAdd64 (τ := τ)).f (itrs R16_0)
def C16 : Ctr τ := ⟨i16, o16, N16⟩
theorem t16_30 : Sound κ Try.prog cAdd64 30 := add64_sound Try.func30 (by kernel_rfl) (by kernel_rfl) (by kernel_rfl) (by kernel_rfl)
theorem g16 : GOK κ Try.prog (G16 (cAdd64 (τ := τ)).f) := (gok_cons t16_30 gok_nil)
theorem le16_0 : ∀ (c30 : (Int × Int × Int × Unit) → Option (Int × Int × Unit)) x, Q16_0 c30 x = run Try.prog κ (G16 c30) (tabL []) 0 (loopAt Try.f16 0) (li16_0.build x) (rnd li16_0 lo16_0) := fun c30 x => by kernel_rfl
theorem linner16_0 : ∀ Z : Zn, Z.rl = [] → 53 ≤ Z.nt → ∀ p ∈ loops 0 (loopAt Try.f16 0), ∀ C, (tabL []) p.1 = some C → LoopOK κ Try.prog Z p.2 C := fun Z h n => fun p hp => (by cases (show p ∈ ([] : List (Nat × Code)) from hp))
theorem lk16_0 : ∀ Z : Zn, Z.rl = [] → 53 ≤ Z.nt → LoopOK κ Try.prog Z (loopAt Try.f16 0) L16_0 := fun Z h n => loop_ok (S := (tabL [])) R16_0 (by kernel_rfl) g16 (by rw [h]; exact dsts_mono n _ (by kernel_rfl)) (linner16_0 Z h n) (by kernel_rfl) (by kernel_rfl) (le16_0 (cAdd64 (τ := τ)).f) itrs_rounds
theorem lall16 : ∀ Z : Zn, Z.rl = C16.o.keeps → Try.f16.ntmps ≤ Z.nt → ∀ p ∈ loops 0 (bodyOf Try.f16), ∀ C, (tabL [(0, L16_0)]) p.1 = some C → LoopOK κ Try.prog Z p.2 C := fun Z h n => all_loops [(0, loopAt Try.f16 0)] (by kernel_rfl) (all_cons (fun C hC => (Option.some.inj hC : L16_0 = C) ▸ lk16_0 Z h n) (fun _ h => by cases h))
theorem e16 : ∀ (c30 : (Int × Int × Int × Unit) → Option (Int × Int × Unit)) (l16_0 : LA16_0 → Option LB16_0) x, M16 c30 l16_0 x = fnE Try.prog κ (G16 c30) (tabL [(0, (⟨li16_0, l16_0, lo16_0⟩ : Lc τ))]) Try.f16 i16 o16 x := fun c30 l16_0 x => by kernel_rfl
theorem s16 : Sound κ Try.prog C16 16 := fn_sound (S := (tabL [(0, L16_0)])) (F := Try.f16) (code := bodyOf Try.f16) (by kernel_rfl) g16 Try.func16 (by kernel_rfl) (by kernel_rfl) (by kernel_rfl) lall16 (by kernel_rfl) (by kernel_rfl) fun x y h => (e16 (cAdd64 (τ := τ)).f (itrs R16_0) x).symm.trans h
end Go.Proofs.Ytnlajjeppdchiaa.E
namespace Go.Proofs.Ytnlajjeppdchiaa.E
open Go
set_option linter.unusedVariables false
set_option maxRecDepth 100000
abbrev A21 : Type := (((List T27) × (List T3 × ((List T65 × Unit) × Unit))) × Unit)
abbrev B21 : Type := (((Int × Int) × ((Int × Int) × (Int × Int))) × Int × ((List T27) × (List T3 × ((List T65 × Unit) × Unit))) × Unit)
def i21 : Fr τ A21 := (.ptr 0 none 76 (.val (.sl 27) (.own 3 (.ptr 62 (.own 65 .nil) .nil))) .nil)
def o21 : Fr τ B21 := (.val 1000 (.pair (.pair (.int .i64) (.int .u64)) (.pair (.pair (.int .i64) (.int .u64)) (.pair (.int .i64) (.int .u64)))) (.val 1001 (.int .i64) (.ptr 0 none 76 (.val (.sl 27) (.own 3 (.ptr 62 (.own 65 .nil) .nil))) .nil)))
def G21 (c16 : A16 → Option B16) : Nat → Option (Ctr τ) := tabG [(16, (⟨i16, o16, c16⟩ : Ctr τ))]
abbrev LA21_0 : Type := (((List T27) × (List T3 × ((List T65 × Unit) × Unit))) × ((Int × Int) × ((Int × Int) × ((Int × Int) × Unit))) × (List T39) × (List T39) × (List T39) × (List T27) × Int × Int × Unit)
abbrev LB21_0 : Type := (((List T27) × (List T3 × ((List T65 × Unit) × Unit))) × ((Int × Int) × ((Int × Int) × ((Int × Int) × Unit))) × (List T39) × (List T39) × (List T39) × Unit)
def li21_0 : Fr τ LA21_0 := (.ptr 0 none 76 (.val (.sl 27) (.own 3 (.ptr 62 (.own 65 .nil) .nil))) (.ptr 2 none 41 (.val (.pair (.int .i64) (.int .u64)) (.val (.pair (.int .i64) (.int .u64)) (.val (.pair (.int .i64) (.int .u64)) .nil))) (.own 4 39 (.own 5 39 (.own 6 39 (.val 17 (.sl 27) (.val 18 (.int .i64) (.val 19 (.int .i64) .nil))))))))
def lo21_0 : Ot τ LB21_0 := .one (.exit 0) (.ptr 0 none 76 (.val (.sl 27) (.own 3 (.ptr 62 (.own 65 .nil) .nil))) (.ptr 2 none 41 (.val (.pair (.int .i64) (.int .u64)) (.val (.pair (.int .i64) (.int .u64)) (.val (.pair (.int .i64) (.int .u64)) .nil))) (.own 4 39 (.own 5 39 (.own 6 39 .nil)))))
def Q21_0 (c16 : A16 → Option B16) : LA21_0 → Option (LA21_0 ⊕ LB21_0) := fun ⟨⟨l'_0, ⟨l'_1, ⟨⟨l'_2, ()⟩, ()⟩⟩⟩, ⟨⟨⟨t2'_0, t2'_1⟩, ⟨⟨t2'_2, t2'_3⟩, ⟨⟨t2'_4, t2'_5⟩, ()⟩⟩⟩, ⟨a', ⟨b', ⟨c', ⟨t17', ⟨t18', ⟨t19', ()⟩⟩⟩⟩⟩⟩⟩⟩ => (bif decide (t19' < t18') then ((bif decide (0 ≤ t19') then t17'[Int.toNat t19']? else none).bind fun ⟨y1_0, ⟨y1_1, y1_2⟩⟩ => (let v0 : Int := ↑(List.length l'_1); (bif decide (0 ≤ t19') && decide (t19' < v0) then some () else none).bind fun () => ((l'_1[Int.toNat t19']?).bind fun y3 => ((bif decide (0 ≤ y3) then y1_2[Int.toNat y3]? else none).bind fun ⟨y4_0, ⟨⟨y4_1, y4_2⟩, ⟨⟨y4_3, y4_4⟩, ⟨y4_5, y4_6⟩⟩⟩⟩ => ((bif decide ((List.length a' + 1) * 16 ≤ 210000000000000) then some () else none).bind fun () => ((bif decide ((List.length b' + 1) * 16 ≤ 210000000000000) then some () else none).bind fun () => ((bif decide ((List.length c' + 1) * 16 ≤ 210000000000000) then some () else none).bind fun () => (let v1 : Int := t19' + 1; let v2 : Int := IntKind.wrap IntKind.i64 v1; some (.inl ((l'_0, (l'_1, ((l'_2, ()), ()))), (((t2'_0, t2'_1), ((t2'_2, t2'_3), ((t2'_4, t2'_5), ()))), (a' ++ [(y4_1, y4_2)], (b' ++ [(y4_3, y4_4)], (c' ++ [(y4_5, y4_6)], (t17', (t18', (v2, ()))))))))))))))))) else (some (.inr ((l'_0, (l'_1, ((l'_2, ()), ()))), (((t2'_0, t2'_1), ((t2'_2, t2'_3), ((t2'_4, t2'_5), ()))), (a', (b', (c', ()))))))))
def R21_0 : LA21_0 → Option (LA21_0 ⊕ LB21_0) := Q21_0 N16
def L21_0 : Lc τ := ⟨li21_0, itrs R21_0, lo21_0⟩
def M21 (c16 : A16 → Option B16) (l21_0 : LA21_0 → Option LB21_0) : A21 → Option B21 := fun ⟨⟨l'_0, ⟨l'_1, ⟨⟨l'_2, ()⟩, ()⟩⟩⟩, ()⟩ => (let v0 : Int := ↑(List.length l'_0); (l21_0 ((l'_0, (l'_1, ((l'_2, ()), ()))), (((0, 0), ((0, 0), ((0, 0), ()))), ([], ([], ([], (l'_0, (v0, (0, ()))))))))).bind fun ⟨⟨y0_0, ⟨y0_1, ⟨⟨y0_2, ()⟩, ()⟩⟩⟩, ⟨⟨⟨y0_3, y0_4⟩, ⟨⟨y0_5, y0_6⟩, ⟨⟨y0_7, y0_8⟩, ()⟩⟩⟩, ⟨y0_9, ⟨y0_10, ⟨y0_11, ()⟩⟩⟩⟩⟩ => ((c16 (y0_9, ())).bind fun ⟨⟨y1_0, y1_1⟩, ⟨y1_2, ()⟩⟩ => ((c16 (y0_10, ())).bind fun ⟨⟨y2_0, y2_1⟩, ⟨y2_2, ()⟩⟩ => ((c16 (y0_11, ())).bind fun ⟨⟨y3_0, y3_1⟩, ⟨y3_2, ()⟩⟩ => (bif y1_2 != 0 then (some (((0, 0), ((0, 0), (0, 0))), (10, ((y0_0, (y0_1, ((y0_2, ()), ()))), ())))) else (bif y2_2 != 0 then (some (((0, 0), ((0, 0), (0, 0))), (10, ((y0_0, (y0_1, ((y0_2, ()), ()))), ())))) else (bif y3_2 != 0 then (some (((0, 0), ((0, 0), (0, 0))), (10, ((y0_0, (y0_1, ((y0_2, ()), ()))), ())))) else (some (((y1_0, y1_1), ((y2_0, y2_1), (y3_0, y3_1))), (0, ((y0_0, (y0_1, ((y0_2, ()), ()))), ())))))))))))
def N21 : A21 → Option B21 := M21 N16 (itrs R21_0)
def C21 : Ctr τ := ⟨i21, o21, N21⟩
theorem g21 : GOK κ Try.prog (G21 N16) := (gok_cons s16 gok_nil)
theorem le21_0 : ∀ (c16 : A16 → Option B16) x, Q21_0 c16 x = run Try.prog κ (G21 c16) (tabL []) 0 (loopAt Try.f21 0) (li21_0.build x) (rnd li21_0 lo21_0) := fun c16 x => by kernel_rfl
theorem linner21_0 : ∀ Z : Zn, Z.rl = [0] → 82 ≤ Z.nt → ∀ p ∈ loops 0 (loopAt Try.f21 0), ∀ C, (tabL []) p.1 = some C → LoopOK κ Try.prog Z p.2 C := fun Z h n => fun p hp => (by cases (show p ∈ ([] : List (Nat × Code)) from hp))
theorem lk21_0 : ∀ Z : Zn, Z.rl = [0] → 82 ≤ Z.nt → LoopOK κ Try.prog Z (loopAt Try.f21 0) L21_0 := fun Z h n => loop_ok (S := (tabL [])) R21_0 (by kernel_rfl) g21 (by rw [h]; exact dsts_mono n _ (by kernel_rfl)) (linner21_0 Z h n) (by kernel_rfl) (by kernel_rfl) (le21_0 N16) itrs_rounds
theorem lall21 : ∀ Z : Zn, Z.rl = C21.o.keeps → Try.f21.ntmps ≤ Z.nt → ∀ p ∈ loops 0 (bodyOf Try.f21), ∀ C, (tabL [(0, L21_0)]) p.1 = some C → LoopOK κ Try.prog Z p.2 C := fun Z h n => all_loops [(0, loopAt Try.f21 0)] (by kernel_rfl) (all_cons (fun C hC => (Option.some.inj hC : L21_0 = C) ▸ lk21_0 Z h n) (fun _ h => by cases h))
theorem e21 : ∀ (c16 : A16 → Option B16) (l21_0 : LA21_0 → Option LB21_0) x, M21 c16 l21_0 x = fnE Try.prog κ (G21 c16) (tabL [(0, (⟨li21_0, l21_0, lo21_0⟩ : Lc τ))]) Try.f21 i21 o21 x := fun c16 l21_0 x => by kernel_rfl
theorem s21 : Sound κ Try.prog C21 21 := fn_sound (S := (tabL [(0, L21_0)])) (F := Try.f21) (code := bodyOf Try.f21) (by kernel_rfl) g21 Try.func21 (by kernel_rfl) (by kernel_rfl) (by kernel_rfl) lall21 (by kernel_rfl) (by kernel_rfl) fun x y h => (e21 N16 (itrs R21_0) x).symm.trans h
end Go.Proofs.Ytnlajjeppdchiaa.E
namespace Go.Proofs.Ytnlajjeppdchiaa.E
open Go
set_option linter.unusedVariables false
set_option maxRecDepth 100000
abbrev A9 : Type := ((List T27) × Unit)
abbrev B9 : Type := ((Int × (Int × (List T43))) × Int × Unit)
def i9 : Fr τ A9 := (.val 0 (.sl 27) .nil)
def o9 : Fr τ B9 := (.val 1000 (.pair (.int .i64) (.pair (.int .i64) (.sl 43))) (.val 1001 (.int .i64) .nil))
def G9 (c14 : A14 → Option B14) (c19 : A19 → Option B19) (c20 : A20 → Option B20) (c21 : A21 → Option B21) : Nat → Option (Ctr τ) := tabG [(14, (⟨i14, o14, c14⟩ : Ctr τ)), (19, (⟨i19, o19, c19⟩ : Ctr τ)), (20, (⟨i20, o20, c20⟩ : Ctr τ)), (21, (⟨i21, o21, c21⟩ : Ctr τ))]
abbrev LA9_2 : Type := ((Int × (Int × ((List T43) × Unit))) × (Int × (Int × (List T43 × Unit))) × ((List T27) × (List T3 × ((List T65 × Unit) × Unit))) × Int × Bool × Unit)
abbrev LB9_2 : Type := ((Int × (Int × ((List T43) × Unit))) × (Int × (Int × (List T43 × Unit))) × Unit) ⊕ ((Int × (Int × ((List T43) × Unit))) × Int × Unit)
def li9_2 : Fr τ LA9_2 := (.ptr 2 none 27 (.val (.int .i64) (.val (.int .i64) (.val (.sl 43) .nil))) (.ptr 4 none 27 (.val (.int .i64) (.val (.int .i64) (.own 43 .nil))) (.ptr 7 none 76 (.val (.sl 27) (.own 3 (.ptr 62 (.own 65 .nil) .nil))) (.val 8 (.int .i64) (.val 9 .bool .nil)))))
def lo9_2 : Ot τ LB9_2 := .alt (.exit 2) (.ptr 2 none 27 (.val (.int .i64) (.val (.int .i64) (.val (.sl 43) .nil))) (.ptr 4 none 27 (.val (.int .i64) (.val (.int .i64) (.own 43 .nil))) .nil)) (.one .ret (.ptr 2 none 27 (.val (.int .i64) (.val (.int .i64) (.val (.sl 43) .nil))) (.val 3 (.int .i64) .nil)))
def Q9_2 (c14 : A14 → Option B14) (c19 : A19 → Option B19) (c20 : A20 → Option B20) (c21 : A21 → Option B21) : LA9_2 → Option (LA9_2 ⊕ LB9_2) := fun ⟨⟨t2'_0, ⟨t2'_1, ⟨t2'_2, ()⟩⟩⟩, ⟨⟨out'_0, ⟨out'_1, ⟨out'_2, ()⟩⟩⟩, ⟨⟨l'_0, ⟨l'_1, ⟨⟨l'_2, ()⟩, ()⟩⟩⟩, ⟨from', ⟨ok', ()⟩⟩⟩⟩⟩ => (bif ok' then ((c21 ((l'_0, (l'_1, ((l'_2, ()), ()))), ())).bind fun ⟨⟨⟨y1_0, y1_1⟩, ⟨⟨y1_2, y1_3⟩, ⟨y1_4, y1_5⟩⟩⟩, ⟨y1_6, ⟨⟨y1_7, ⟨y1_8, ⟨⟨y1_9, ()⟩, ()⟩⟩⟩, ()⟩⟩⟩ => (bif y1_6 != 0 then (some (.inr (.inr ((0, (0, ([], ()))), (y1_6, ()))))) else (let v0 : Int := ↑(List.length out'_2); bif decide (v0 > 0) then (let v1 : Int := v0 - 1; let v2 : Int := IntKind.wrap IntKind.i64 v1; (bif decide (0 ≤ v2) && decide (v2 < v0) then some () else none).bind fun () => ((out'_2[Int.toNat v2]?).bind fun ⟨y5_0, ⟨⟨y5_1, y5_2⟩, ⟨⟨y5_3, y5_4⟩, ⟨y5_5, y5_6⟩⟩⟩⟩ => (bif y5_1 == y1_0 && y5_2 == y1_1 && (y5_3 == y1_2 && y5_4 == y1_3 && (y5_5 == y1_4 && y5_6 == y1_5)) then ((c20 ((y1_7, (y1_8, ((y1_9, ()), ()))), ())).bind fun ⟨y7_0, ⟨y7_1, ⟨⟨y7_2, ⟨y7_3, ⟨⟨y7_4, ()⟩, ()⟩⟩⟩, ()⟩⟩⟩ => (some (.inl ((t2'_0, (t2'_1, (t2'_2, ()))), ((out'_0, (out'_1, (out'_2, ()))), ((y7_2, (y7_3, ((y7_4, ()), ()))), (y7_0, (y7_1, ())))))))) else (bif v0 == 256 then (some (.inr (.inr ((0, (0, ([], ()))), (120, ()))))) else ((bif decide ((List.length out'_2 + 1) * 56 ≤ 210000000000000) then some () else none).bind fun () => ((c20 ((y1_7, (y1_8, ((y1_9, ()), ()))), ())).bind fun ⟨y9_0, ⟨y9_1, ⟨⟨y9_2, ⟨y9_3, ⟨⟨y9_4, ()⟩, ()⟩⟩⟩, ()⟩⟩⟩ => (some (.inl ((t2'_0, (t2'_1, (t2'_2, ()))), ((out'_0, (out'_1, (out'_2 ++ [(from', (y1_0, y1_1), (y1_2, y1_3), y1_4, y1_5)], ()))), ((y9_2, (y9_3, ((y9_4, ()), ()))), (y9_0, (y9_1, ()))))))))))))) else (bif v0 == 256 then (some (.inr (.inr ((0, (0, ([], ()))), (120, ()))))) else ((bif decide ((List.length out'_2 + 1) * 56 ≤ 210000000000000) then some () else none).bind fun () => ((c20 ((y1_7, (y1_8, ((y1_9, ()), ()))), ())).bind fun ⟨y6_0, ⟨y6_1, ⟨⟨y6_2, ⟨y6_3, ⟨⟨y6_4, ()⟩, ()⟩⟩⟩, ()⟩⟩⟩ => (some (.inl ((t2'_0, (t2'_1, (t2'_2, ()))), ((out'_0, (out'_1, (out'_2 ++ [(from', (y1_0, y1_1), (y1_2, y1_3), y1_4, y1_5)], ()))), ((y6_2, (y6_3, ((y6_4, ()), ()))), (y6_0, (y6_1, ()))))))))))))) else (some (.inr (.inl ((t2'_0, (t2'_1, (t2'_2, ()))), ((out'_0, (out'_1, (out'_2, ()))), ()))))))
def R9_2 : LA9_2 → Option (LA9_2 ⊕ LB9_2) := Q9_2 N14 N19 N20 N21
def L9_2 : Lc τ := ⟨li9_2, itrs R9_2, lo9_2⟩
abbrev LA9_0 : Type := ((List T27) × (Int × (Int × ((List T43) × Unit))) × (Int × (Int × (List T43 × Unit))) × (List T27) × Int × Int × Unit)
abbrev LB9_0 : Type := ((List T27) × (Int × (Int × ((List T43) × Unit))) × (Int × (Int × (List T43 × Unit))) × Unit) ⊕ ((Int × (Int × ((List T43) × Unit))) × Int × Unit)
def li9_0 : Fr τ LA9_0 := (.val 0 (.sl 27) (.ptr 2 none 27 (.val (.int .i64) (.val (.int .i64) (.val (.sl 43) .nil))) (.ptr 4 none 27 (.val (.int .i64) (.val (.int .i64) (.own 43 .nil))) (.val 26 (.sl 27) (.val 27 (.int .i64) (.val 28 (.int .i64) .nil))))))
def lo9_0 : Ot τ LB9_0 := .alt (.exit 0) (.val 0 (.sl 27) (.ptr 2 none 27 (.val (.int .i64) (.val (.int .i64) (.val (.sl 43) .nil))) (.ptr 4 none 27 (.val (.int .i64) (.val (.int .i64) (.own 43 .nil))) .nil))) (.one .ret (.ptr 2 none 27 (.val (.int .i64) (.val (.int .i64) (.val (.sl 43) .nil))) (.val 3 (.int .i64) .nil)))
def Q9_0 (c14 : A14 → Option B14) (c19 : A19 → Option B19) (c20 : A20 → Option B20) (c21 : A21 → Option B21) : LA9_0 → Option (LA9_0 ⊕ LB9_0) := fun ⟨tables', ⟨⟨t2'_0, ⟨t2'_1, ⟨t2'_2, ()⟩⟩⟩, ⟨⟨out'_0, ⟨out'_1, ⟨out'_2, ()⟩⟩⟩, ⟨t26', ⟨t27', ⟨t28', ()⟩⟩⟩⟩⟩⟩ => (bif decide (t28' < t27') then ((bif decide (0 ≤ t28') then t26'[Int.toNat t28']? else none).bind fun ⟨y1_0, ⟨y1_1, y1_2⟩⟩ => ((c14 ((y1_0, (y1_1, y1_2)), ())).bind fun ⟨y2, ()⟩ => (bif !y2 then (some (.inr (.inr ((0, (0, ([], ()))), (1, ()))))) else (bif y1_0 != out'_0 then (some (.inr (.inr ((0, (0, ([], ()))), (1, ()))))) else (bif y1_1 != out'_1 then (some (.inr (.inr ((0, (0, ([], ()))), (1, ()))))) else (let v0 : Int := t28' + 1; let v1 : Int := IntKind.wrap IntKind.i64 v0; some (.inl (tables', ((t2'_0, (t2'_1, (t2'_2, ()))), ((out'_0, (out'_1, (out'_2, ()))), (t26', (t27', (v1, ()))))))))))))) else (some (.inr (.inl (tables', ((t2'_0, (t2'_1, (t2'_2, ()))), ((out'_0, (out'_1, (out'_2, ()))), ())))))))
def R9_0 : LA9_0 → Option (LA9_0 ⊕ LB9_0) := Q9_0 N14 N19 N20 N21
def L9_0 : Lc τ := ⟨li9_0, itrs R9_0, lo9_0⟩
def M9 (c14 : A14 → Option B14) (c19 : A19 → Option B19) (c20 : A20 → Option B20) (c21 : A21 → Option B21) (l9_0 : LA9_0 → Option LB9_0) (l9_2 : LA9_2 → Option LB9_2) : A9 → Option B9 := fun ⟨tables', ()⟩ => (let v0 : Int := ↑(List.length tables'); bif v0 == 0 then (some ((0, (0, [])), (1, ()))) else ((tables'[0]?).bind fun ⟨y1_0, ⟨y1_1, y1_2⟩⟩ => ((tables'[0]?).bind fun ⟨y2_0, ⟨y2_1, y2_2⟩⟩ => ((l9_0 (tables', ((0, (0, ([], ()))), ((y1_0, (y2_1, ([], ()))), (tables', (v0, (0, ()))))))).bind fun y3 => (match y3 with | .inl ⟨y4_0, ⟨⟨y4_1, ⟨y4_2, ⟨y4_3, ()⟩⟩⟩, ⟨⟨y4_4, ⟨y4_5, ⟨y4_6, ()⟩⟩⟩, ()⟩⟩⟩ => ((c19 (y4_0, ())).bind fun ⟨⟨y5_0, ⟨y5_1, ⟨⟨y5_2, ()⟩, ()⟩⟩⟩, ()⟩ => ((c20 ((y5_0, (y5_1, ((y5_2, ()), ()))), ())).bind fun ⟨y6_0, ⟨y6_1, ⟨⟨y6_2, ⟨y6_3, ⟨⟨y6_4, ()⟩, ()⟩⟩⟩, ()⟩⟩⟩ => ((l9_2 ((y4_1, (y4_2, (y4_3, ()))), ((y4_4, (y4_5, (y4_6, ()))), ((y6_2, (y6_3, ((y6_4, ()), ()))), (y6_0, (y6_1, ())))))).bind fun y7 => (match y7 with | .inl ⟨⟨y8_0, ⟨y8_1, ⟨y8_2, ()⟩⟩⟩, ⟨⟨y8_3, ⟨y8_4, ⟨y8_5, ()⟩⟩⟩, ()⟩⟩ => (some ((y8_3, (y8_4, y8_5)), (0, ()))) | .inr ⟨⟨y8_0, ⟨y8_1, ⟨y8_2, ()⟩⟩⟩, ⟨y8_3, ()⟩⟩ => (some ((y8_0, (y8_1, y8_2)), (y8_3, ()))))))) | .inr ⟨⟨y4_0, ⟨y4_1, ⟨y4_2, ()⟩⟩⟩, ⟨y4_3, ()⟩⟩ => (some ((y4_0, (y4_1, y4_2)), (y4_3, ()))))))))
def N9 : A9 → Option B9 := M9 N14 N19 N20 N21 (itrs R9_0) (itrs R9_2)
def C9 : Ctr τ := ⟨i9, o9, N9⟩
theorem g9 : GOK κ Try.prog (G9 N14 N19 N20 N21) := (gok_cons s14 (gok_cons s19 (gok_cons s20 (gok_cons s21 gok_nil))))
theorem le9_2 : ∀ (c14 : A14 → Option B14) (c19 : A19 → Option B19) (c20 : A20 → Option B20) (c21 : A21 → Option B21) x, Q9_2 c14 c19 c20 c21 x = run Try.prog κ (G9 c14 c19 c20 c21) (tabL []) 2 (loopAt Try.f9 1) (li9_2.build x) (rnd li9_2 lo9_2) := fun c14 c19 c20 c21 x => by kernel_rfl
theorem le9_0 : ∀ (c14 : A14 → Option B14) (c19 : A19 → Option B19) (c20 : A20 → Option B20) (c21 : A21 → Option B21) x, Q9_0 c14 c19 c20 c21 x = run Try.prog κ (G9 c14 c19 c20 c21) (tabL []) 0 (loopAt Try.f9 0) (li9_0.build x) (rnd li9_0 lo9_0) := fun c14 c19 c20 c21 x => by kernel_rfl
theorem linner9_2 : ∀ Z : Zn, Z.rl = [] → 103 ≤ Z.nt → ∀ p ∈ loops 2 (loopAt Try.f9 1), ∀ C, (tabL []) p.1 = some C → LoopOK κ Try.prog Z p.2 C := fun Z h n => fun p hp => (by cases (show p ∈ ([] : List (Nat × Code)) from hp))
theorem lk9_2 : ∀ Z : Zn, Z.rl = [] → 103 ≤ Z.nt → LoopOK κ Try.prog Z (loopAt Try.f9 1) L9_2 := fun Z h n => loop_ok (S := (tabL [])) R9_2 (by kernel_rfl) g9 (by rw [h]; exact dsts_mono n _ (by kernel_rfl)) (linner9_2 Z h n) (by kernel_rfl) (by kernel_rfl) (le9_2 N14 N19 N20 N21) itrs_rounds
theorem linner9_0 : ∀ Z : Zn, Z.rl = [] → 103 ≤ Z.nt → ∀ p ∈ loops 0 (loopAt Try.f9 0), ∀ C, (tabL []) p.1 = some C → LoopOK κ Try.prog Z p.2 C := fun Z h n => fun p hp => (by cases (show p ∈ ([] : List (Nat × Code)) from hp))
theorem lk9_0 : ∀ Z : Zn, Z.rl = [] → 103 ≤ Z.nt → LoopOK κ Try.prog Z (loopAt Try.f9 0) L9_0 := fun Z h n => loop_ok (S := (tabL [])) R9_0 (by kernel_rfl) g9 (by rw [h]; exact dsts_mono n _ (by kernel_rfl)) (linner9_0 Z h n) (by kernel_rfl) (by kernel_rfl) (le9_0 N14 N19 N20 N21) itrs_rounds
theorem lall9 : ∀ Z : Zn, Z.rl = C9.o.keeps → Try.f9.ntmps ≤ Z.nt → ∀ p ∈ loops 0 (bodyOf Try.f9), ∀ C, (tabL [(0, L9_0), (2, L9_2)]) p.1 = some C → LoopOK κ Try.prog Z p.2 C := fun Z h n => all_loops [(0, loopAt Try.f9 0), (2, loopAt Try.f9 1)] (by kernel_rfl) (all_cons (fun C hC => (Option.some.inj hC : L9_0 = C) ▸ lk9_0 Z h n) (all_cons (fun C hC => (Option.some.inj hC : L9_2 = C) ▸ lk9_2 Z h n) (fun _ h => by cases h)))
theorem e9 : ∀ (c14 : A14 → Option B14) (c19 : A19 → Option B19) (c20 : A20 → Option B20) (c21 : A21 → Option B21) (l9_0 : LA9_0 → Option LB9_0) (l9_2 : LA9_2 → Option LB9_2) x, M9 c14 c19 c20 c21 l9_0 l9_2 x = fnE Try.prog κ (G9 c14 c19 c20 c21) (tabL [(0, (⟨li9_0, l9_0, lo9_0⟩ : Lc τ)), (2, (⟨li9_2, l9_2, lo9_2⟩ : Lc τ))]) Try.f9 i9 o9 x := fun c14 c19 c20 c21 l9_0 l9_2 x => by kernel_rfl
theorem s9 : Sound κ Try.prog C9 9 := fn_sound (S := (tabL [(0, L9_0), (2, L9_2)])) (F := Try.f9) (code := bodyOf Try.f9) (by kernel_rfl) g9 Try.func9 (by kernel_rfl) (by kernel_rfl) (by kernel_rfl) lall9 (by kernel_rfl) (by kernel_rfl) fun x y h => (e9 N14 N19 N20 N21 (itrs R9_0) (itrs R9_2) x).symm.trans h
end Go.Proofs.Ytnlajjeppdchiaa.E
namespace Go.Proofs.Ytnlajjeppdchiaa.E
open Go
set_option linter.unusedVariables false
set_option maxRecDepth 100000
abbrev A12 : Type := ((List T27) × Unit)
abbrev B12 : Type := ((List T2) × Unit)
def i12 : Fr τ A12 := (.val 0 (.sl 27) .nil)
def o12 : Fr τ B12 := (.own 1000 2 .nil)
def G12 (c24 : A24 → Option B24) (c25 : A25 → Option B25) (c26 : A26 → Option B26) : Nat → Option (Ctr τ) := tabG [(24, (⟨i24, o24, c24⟩ : Ctr τ)), (25, (⟨i25, o25, c25⟩ : Ctr τ)), (26, (⟨i26, o26, c26⟩ : Ctr τ))]
abbrev LA12_4 : Type := ((List T65 × Unit) × (List T2) × Unit)
abbrev LB12_4 : Type := ((List T2) × Unit)
def li12_4 : Fr τ LA12_4 := (.ptr 3 none 62 (.own 65 .nil) (.own 8 2 .nil))
def lo12_4 : Ot τ LB12_4 := .one (.exit 4) (.own 8 2 .nil)
def Q12_4 (c24 : A24 → Option B24) (c25 : A25 → Option B25) (c26 : A26 → Option B26) : LA12_4 → Option (LA12_4 ⊕ LB12_4) := fun ⟨⟨q', ()⟩, ⟨out', ()⟩⟩ => ((c25 (q', ())).bind fun ⟨y0_0, ⟨y0_1, ()⟩⟩ => (bif decide (y0_0 > 0) then ((c26 ((y0_1, ()), ())).bind fun ⟨⟨y2_0, y2_1⟩, ⟨⟨y2_2, ()⟩, ()⟩⟩ => (let v0 : Int := ↑(List.length out'); bif v0 == 0 then ((bif decide ((List.length out' + 1) * 8 ≤ 210000000000000) then some () else none).bind fun () => (some (.inl ((y2_2, ()), (out' ++ [y2_0], ()))))) else (let v1 : Int := v0 - 1; let v2 : Int := IntKind.wrap IntKind.i64 v1; (bif decide (0 ≤ v2) && decide (v2 < v0) then some () else none).bind fun () => ((out'[Int.toNat v2]?).bind fun y5 => (bif y5 != y2_0 then ((bif decide ((List.length out' + 1) * 8 ≤ 210000000000000) then some () else none).bind fun () => (some (.inl ((y2_2, ()), (out' ++ [y2_0], ()))))) else (some (.inl ((y2_2, ()), (out', ()))))))))) else (some (.inr (out', ())))))
def R12_4 : LA12_4 → Option (LA12_4 ⊕ LB12_4) := Q12_4 N24 N25 N26
def L12_4 : Lc τ := ⟨li12_4, itrs R12_4, lo12_4⟩
abbrev LA12_2 : Type := ((List T65 × Unit) × (List T27) × Int × Int × (List T43) × Int × Int × Unit)
abbrev LB12_2 : Type := ((List T65 × Unit) × (List T27) × Int × Int × Unit)
def li12_2 : Fr τ LA12_2 := (.ptr 3 none 62 (.own 65 .nil) (.val 13 (.sl 27) (.val 14 (.int .i64) (.val 15 (.int .i64) (.val 20 (.sl 43) (.val 21 (.int .i64) (.val 22 (.int .i64) .nil)))))))
def lo12_2 : Ot τ LB12_2 := .one (.exit 2) (.ptr 3 none 62 (.own 65 .nil) (.val 13 (.sl 27) (.val 14 (.int .i64) (.val 15 (.int .i64) .nil))))
def Q12_2 (c24 : A24 → Option B24) (c25 : A25 → Option B25) (c26 : A26 → Option B26) : LA12_2 → Option (LA12_2 ⊕ LB12_2) := fun ⟨⟨q', ()⟩, ⟨t13', ⟨t14', ⟨t15', ⟨t20', ⟨t21', ⟨t22', ()⟩⟩⟩⟩⟩⟩⟩ => (bif decide (t22' < t21') then ((bif decide (0 ≤ t22') then t20'[Int.toNat t22']? else none).bind fun ⟨y1_0, ⟨⟨y1_1, y1_2⟩, ⟨⟨y1_3, y1_4⟩, ⟨y1_5, y1_6⟩⟩⟩⟩ => ((c24 ((q', ()), ((y1_0, 0), ()))).bind fun ⟨⟨y2, ()⟩, ()⟩ => (let v0 : Int := t22' + 1; let v1 : Int := IntKind.wrap IntKind.i64 v0; some (.inl ((y2, ()), (t13', (t14', (t15', (t20', (t21', (v1, ()))))))))))) else (some (.inr ((q', ()), (t13', (t14', (t15', ())))))))
def R12_2 : LA12_2 → Option (LA12_2 ⊕ LB12_2) := Q12_2 N24 N25 N26
def L12_2 : Lc τ := ⟨li12_2, itrs R12_2, lo12_2⟩
abbrev LA12_0 : Type := ((List T65 × Unit) × (List T27) × Int × Int × Unit)
abbrev LB12_0 : Type := ((List T65 × Unit) × Unit)
def li12_0 : Fr τ LA12_0 := (.ptr 3 none 62 (.own 65 .nil) (.val 13 (.sl 27) (.val 14 (.int .i64) (.val 15 (.int .i64) .nil))))
def lo12_0 : Ot τ LB12_0 := .one (.exit 0) (.ptr 3 none 62 (.own 65 .nil) .nil)
def Q12_0 (c24 : A24 → Option B24) (c25 : A25 → Option B25) (c26 : A26 → Option B26) (l12_2 : LA12_2 → Option LB12_2) : LA12_0 → Option (LA12_0 ⊕ LB12_0) := fun ⟨⟨q', ()⟩, ⟨t13', ⟨t14', ⟨t15', ()⟩⟩⟩⟩ => (bif decide (t15' < t14') then ((bif decide (0 ≤ t15') then t13'[Int.toNat t15']? else none).bind fun ⟨y1_0, ⟨y1_1, y1_2⟩⟩ => (let v0 : Int := ↑(List.length y1_2); (l12_2 ((q', ()), (t13', (t14', (t15', (y1_2, (v0, (0, ())))))))).bind fun ⟨⟨y2_0, ()⟩, ⟨y2_1, ⟨y2_2, ⟨y2_3, ()⟩⟩⟩⟩ => (let v1 : Int := y2_3 + 1; let v2 : Int := IntKind.wrap IntKind.i64 v1; some (.inl ((y2_0, ()), (y2_1, (y2_2, (v2, ())))))))) else (some (.inr ((q', ()), ()))))
def R12_0 : LA12_0 → Option (LA12_0 ⊕ LB12_0) := Q12_0 N24 N25 N26 (itrs R12_2)
def L12_0 : Lc τ := ⟨li12_0, itrs R12_0, lo12_0⟩
def M12 (c24 : A24 → Option B24) (c25 : A25 → Option B25) (c26 : A26 → Option B26) (l12_0 : LA12_0 → Option LB12_0) (l12_4 : LA12_4 → Option LB12_4) : A12 → Option B12 := fun ⟨tables', ()⟩ => (let v0 : Int := ↑(List.length tables'); (l12_0 (([], ()), (tables', (v0, (0, ()))))).bind fun ⟨⟨y0, ()⟩, ()⟩ => ((l12_4 ((y0, ()), ([], ()))).bind fun ⟨y1, ()⟩ => (some (y1, ()))))
def N12 : A12 → Option B12 := M12 N24 N25 N26 (itrs R12_0) (itrs R12_4)
def C12 : Ctr τ := ⟨i12, o12, N12⟩
theorem g12 : GOK κ Try.prog (G12 N24 N25 N26) := (gok_cons s24 (gok_cons s25 (gok_cons s26 gok_nil)))
theorem le12_4 : ∀ (c24 : A24 → Option B24) (c25 : A25 → Option B25) (c26 : A26 → Option B26) x, Q12_4 c24 c25 c26 x = run Try.prog κ (G12 c24 c25 c26) (tabL []) 4 (loopAt Try.f12 2) (li12_4.build x) (rnd li12_4 lo12_4) := fun c24 c25 c26 x => by kernel_rfl
theorem le12_2 : ∀ (c24 : A24 → Option B24) (c25 : A25 → Option B25) (c26 : A26 → Option B26) x, Q12_2 c24 c25 c26 x = run Try.prog κ (G12 c24 c25 c26) (tabL []) 2 (loopAt Try.f12 1) (li12_2.build x) (rnd li12_2 lo12_2) := fun c24 c25 c26 x => by kernel_rfl
theorem le12_0 : ∀ (c24 : A24 → Option B24) (c25 : A25 → Option B25) (c26 : A26 → Option B26) (l12_2 : LA12_2 → Option LB12_2) x, Q12_0 c24 c25 c26 l12_2 x = run Try.prog κ (G12 c24 c25 c26) (tabL [(2, (⟨li12_2, l12_2, lo12_2⟩ : Lc τ))]) 0 (loopAt Try.f12 0) (li12_0.build x) (rnd li12_0 lo12_0) := fun c24 c25 c26 l12_2 x => by kernel_rfl
theorem linner12_4 : ∀ Z : Zn, Z.rl = [] → 64 ≤ Z.nt → ∀ p ∈ loops 4 (loopAt Try.f12 2), ∀ C, (tabL []) p.1 = some C → LoopOK κ Try.prog Z p.2 C := fun Z h n => fun p hp => (by cases (show p ∈ ([] : List (Nat × Code)) from hp))
theorem lk12_4 : ∀ Z : Zn, Z.rl = [] → 64 ≤ Z.nt → LoopOK κ Try.prog Z (loopAt Try.f12 2) L12_4 := fun Z h n => loop_ok (S := (tabL [])) R12_4 (by kernel_rfl) g12 (by rw [h]; exact dsts_mono n _ (by kernel_rfl)) (linner12_4 Z h n) (by kernel_rfl) (by kernel_rfl) (le12_4 N24 N25 N26) itrs_rounds
theorem linner12_2 : ∀ Z : Zn, Z.rl = [] → 64 ≤ Z.nt → ∀ p ∈ loops 2 (loopAt Try.f12 1), ∀ C, (tabL []) p.1 = some C → LoopOK κ Try.prog Z p.2 C := fun Z h n => fun p hp => (by cases (show p ∈ ([] : List (Nat × Code)) from hp))
theorem lk12_2 : ∀ Z : Zn, Z.rl = [] → 64 ≤ Z.nt → LoopOK κ Try.prog Z (loopAt Try.f12 1) L12_2 := fun Z h n => loop_ok (S := (tabL [])) R12_2 (by kernel_rfl) g12 (by rw [h]; exact dsts_mono n _ (by kernel_rfl)) (linner12_2 Z h n) (by kernel_rfl) (by kernel_rfl) (le12_2 N24 N25 N26) itrs_rounds
theorem linner12_0 : ∀ Z : Zn, Z.rl = [] → 64 ≤ Z.nt → ∀ p ∈ loops 0 (loopAt Try.f12 0), ∀ C, (tabL [(2, L12_2)]) p.1 = some C → LoopOK κ Try.prog Z p.2 C := fun Z h n => all_loops [(2, loopAt Try.f12 1)] (by kernel_rfl) (all_cons (fun C hC => (Option.some.inj hC : L12_2 = C) ▸ lk12_2 Z h n) (fun _ h => by cases h))
theorem lk12_0 : ∀ Z : Zn, Z.rl = [] → 64 ≤ Z.nt → LoopOK κ Try.prog Z (loopAt Try.f12 0) L12_0 := fun Z h n => loop_ok (S := (tabL [(2, L12_2)])) R12_0 (by kernel_rfl) g12 (by rw [h]; exact dsts_mono n _ (by kernel_rfl)) (linner12_0 Z h n) (by kernel_rfl) (by kernel_rfl) (le12_0 N24 N25 N26 (itrs R12_2)) itrs_rounds
theorem lall12 : ∀ Z : Zn, Z.rl = C12.o.keeps → Try.f12.ntmps ≤ Z.nt → ∀ p ∈ loops 0 (bodyOf Try.f12), ∀ C, (tabL [(0, L12_0), (4, L12_4)]) p.1 = some C → LoopOK κ Try.prog Z p.2 C := fun Z h n => all_loops [(0, loopAt Try.f12 0), (2, loopAt Try.f12 1), (4, loopAt Try.f12 2)] (by kernel_rfl) (all_cons (fun C hC => (Option.some.inj hC : L12_0 = C) ▸ lk12_0 Z h n) (all_cons (fun C hC => by cases hC) (all_cons (fun C hC => (Option.some.inj hC : L12_4 = C) ▸ lk12_4 Z h n) (fun _ h => by cases h))))
theorem e12 : ∀ (c24 : A24 → Option B24) (c25 : A25 → Option B25) (c26 : A26 → Option B26) (l12_0 : LA12_0 → Option LB12_0) (l12_4 : LA12_4 → Option LB12_4) x, M12 c24 c25 c26 l12_0 l12_4 x = fnE Try.prog κ (G12 c24 c25 c26) (tabL [(0, (⟨li12_0, l12_0, lo12_0⟩ : Lc τ)), (4, (⟨li12_4, l12_4, lo12_4⟩ : Lc τ))]) Try.f12 i12 o12 x := fun c24 c25 c26 l12_0 l12_4 x => by kernel_rfl
theorem s12 : Sound κ Try.prog C12 12 := fn_sound (S := (tabL [(0, L12_0), (4, L12_4)])) (F := Try.f12) (code := bodyOf Try.f12) (by kernel_rfl) g12 Try.func12 (by kernel_rfl) (by kernel_rfl) (by kernel_rfl) lall12 (by kernel_rfl) (by kernel_rfl) fun x y h => (e12 N24 N25 N26 (itrs R12_0) (itrs R12_4) x).symm.trans h
end Go.Proofs.Ytnlajjeppdchiaa.E
namespace Go.Proofs.Ytnlajjeppdchiaa.E
open Go
set_option linter.unusedVariables false
set_option maxRecDepth 100000
abbrev A11 : Type := ((Int × (Int × (List T43))) × (Int × (Int × (List T43))) × Unit)
abbrev B11 : Type := (Bool × Unit)
def i11 : Fr τ A11 := (.val 0 (.pair (.int .i64) (.pair (.int .i64) (.sl 43))) (.val 1 (.pair (.int .i64) (.pair (.int .i64) (.sl 43))) .nil))
def o11 : Fr τ B11 := (.val 1000 .bool .nil)
def G11 : Nat → Option (Ctr τ) := tabG []
abbrev LA11_0 : Type := ((Int × (Int × ((List T43) × Unit))) × (Int × (Int × ((List T43) × Unit))) × Int × Unit)
abbrev LB11_0 : Type := (Unit) ⊕ (Bool × Unit)
def li11_0 : Fr τ LA11_0 := (.ptr 2 none 27 (.val (.int .i64) (.val (.int .i64) (.val (.sl 43) .nil))) (.ptr 3 none 27 (.val (.int .i64) (.val (.int .i64) (.val (.sl 43) .nil))) (.val 5 (.int .i64) .nil)))
def lo11_0 : Ot τ LB11_0 := .alt (.exit 0) .nil (.one .ret (.val 4 .bool .nil))
def Q11_0 : LA11_0 → Option (LA11_0 ⊕ LB11_0) := fun ⟨⟨a'_0, ⟨a'_1, ⟨a'_2, ()⟩⟩⟩, ⟨⟨b'_0, ⟨b'_1, ⟨b'_2, ()⟩⟩⟩, ⟨i', ()⟩⟩⟩ => (let v0 : Int := ↑(List.length a'_2); bif decide (i' < v0) then ((bif decide (0 ≤ i') then a'_2[Int.toNat i']? else none).bind fun ⟨y1_0, ⟨⟨y1_1, y1_2⟩, ⟨⟨y1_3, y1_4⟩, ⟨y1_5, y1_6⟩⟩⟩⟩ => ((bif decide (0 ≤ i') then b'_2[Int.toNat i']? else none).bind fun ⟨y2_0, ⟨⟨y2_1, y2_2⟩, ⟨⟨y2_3, y2_4⟩, ⟨y2_5, y2_6⟩⟩⟩⟩ => (bif !(y1_0 == y2_0 && (y1_1 == y2_1 && y1_2 == y2_2 && (y1_3 == y2_3 && y1_4 == y2_4 && (y1_5 == y2_5 && y1_6 == y2_6)))) then (some (.inr (.inr (false, ())))) else (let v1 : Int := i' + 1; let v2 : Int := IntKind.wrap IntKind.i64 v1; some (.inl ((a'_0, (a'_1, (a'_2, ()))), ((b'_0, (b'_1, (b'_2, ()))), (v2, ())))))))) else (some (.inr (.inl ()))))
def R11_0 : LA11_0 → Option (LA11_0 ⊕ LB11_0) := Q11_0
def L11_0 : Lc τ := ⟨li11_0, itrs R11_0, lo11_0⟩
def M11 (l11_0 : LA11_0 → Option LB11_0) : A11 → Option B11 := fun ⟨⟨a'_0, ⟨a'_1, a'_2⟩⟩, ⟨⟨b'_0, ⟨b'_1, b'_2⟩⟩, ()⟩⟩ => (bif a'_0 != b'_0 then (some (false, ())) else (bif a'_1 != b'_1 then (some (false, ())) else (let v0 : Int := ↑(List.length a'_2); let v1 : Int := ↑(List.length b'_2); bif v0 != v1 then (some (false, ())) else ((l11_0 ((a'_0, (a'_1, (a'_2, ()))), ((b'_0, (b'_1, (b'_2, ()))), (0, ())))).bind fun y3 => (match y3 with | .inl () => (some (true, ())) | .inr ⟨y4, ()⟩ => (some (y4, ())))))))
def N11 : A11 → Option B11 := M11 (itrs R11_0)
def C11 : Ctr τ := ⟨i11, o11, N11⟩
theorem g11 : GOK κ Try.prog (G11) := gok_nil
theorem le11_0 : ∀ x, Q11_0 x = run Try.prog κ (G11) (tabL []) 0 (loopAt Try.f11 0) (li11_0.build x) (rnd li11_0 lo11_0) := fun x => by kernel_rfl
theorem linner11_0 : ∀ Z : Zn, Z.rl = [] → 45 ≤ Z.nt → ∀ p ∈ loops 0 (loopAt Try.f11 0), ∀ C, (tabL []) p.1 = some C → LoopOK κ Try.prog Z p.2 C := fun Z h n => fun p hp => (by cases (show p ∈ ([] : List (Nat × Code)) from hp))
theorem lk11_0 : ∀ Z : Zn, Z.rl = [] → 45 ≤ Z.nt → LoopOK κ Try.prog Z (loopAt Try.f11 0) L11_0 := fun Z h n => loop_ok (S := (tabL [])) R11_0 (by kernel_rfl) g11 (by rw [h]; exact dsts_mono n _ (by kernel_rfl)) (linner11_0 Z h n) (by kernel_rfl) (by kernel_rfl) (le11_0) itrs_rounds
theorem lall11 : ∀ Z : Zn, Z.rl = C11.o.keeps → Try.f11.ntmps ≤ Z.nt → ∀ p ∈ loops 0 (bodyOf Try.f11), ∀ C, (tabL [(0, L11_0)]) p.1 = some C → LoopOK κ Try.prog Z p.2 C := fun Z h n => all_loops [(0, loopAt Try.f11 0)] (by kernel_rfl) (all_cons (fun C hC => (Option.some.inj hC : L11_0 = C) ▸ lk11_0 Z h n) (fun _ h => by cases h))
theorem e11 : ∀ (l11_0 : LA11_0 → Option LB11_0) x, M11 l11_0 x = fnE Try.prog κ (G11) (tabL [(0, (⟨li11_0, l11_0, lo11_0⟩ : Lc τ))]) Try.f11 i11 o11 x := fun l11_0 x => by kernel_rfl
theorem s11 : Sound κ Try.prog C11 11 := fn_sound (S := (tabL [(0, L11_0)])) (F := Try.f11) (code := bodyOf Try.f11) (by kernel_rfl) g11 Try.func11 (by kernel_rfl) (by kernel_rfl) (by kernel_rfl) lall11 (by kernel_rfl) (by kernel_rfl) fun x y h => (e11 (itrs R11_0) x).symm.trans h
end Go.Proofs.Ytnlajjeppdchiaa.E
namespace Go.Proofs.Ytnlajjeppdchiaa.E
open Go
set_option linter.unusedVariables false
set_option maxRecDepth 100000
abbrev A7 : Type := (Unit)
abbrev B7 : Type := (Bool × Unit)
def i7 : Fr τ A7 := .nil
def o7 : Fr τ B7 := (.val 1000 .bool .nil)
def G7 (c17 : A17 → Option B17) (c9 : A9 → Option B9) (c18 : A18 → Option B18) (c12 : A12 → Option B12) (c11 : A11 → Option B11) : Nat → Option (Ctr τ) := tabG [(17, (⟨i17, o17, c17⟩ : Ctr τ)), (9, (⟨i9, o9, c9⟩ : Ctr τ)), (18, (⟨i18, o18, c18⟩ : Ctr τ)), (12, (⟨i12, o12, c12⟩ : Ctr τ)), (11, (⟨i11, o11, c11⟩ : Ctr τ))]
def M7 (c17 : A17 → Option B17) (c9 : A9 → Option B9) (c18 : A18 → Option B18) (c12 : A12 → Option B12) (c11 : A11 → Option B11) : A7 → Option B7 := fun () => ((c17 (1, (5, (2, ())))).bind fun ⟨⟨y0_0, ⟨y0_1, y0_2⟩⟩, ()⟩ => ((c17 (9, (7, (8, ())))).bind fun ⟨⟨y1_0, ⟨y1_1, y1_2⟩⟩, ()⟩ => ((c9 ([(y0_0, y0_1, y0_2), (y1_0, y1_1, y1_2)], ())).bind fun ⟨⟨y2_0, ⟨y2_1, y2_2⟩⟩, ⟨y2_3, ()⟩⟩ => ((c18 (10, ())).bind fun ⟨⟨y3_0, y3_1⟩, ()⟩ => ((c18 (11, ())).bind fun ⟨⟨y4_0, y4_1⟩, ()⟩ => ((c18 (10, ())).bind fun ⟨⟨y5_0, y5_1⟩, ()⟩ => ((c9 ([], ())).bind fun ⟨⟨y6_0, ⟨y6_1, y6_2⟩⟩, ⟨y6_3, ()⟩⟩ => ((c17 (1, (5, (2, ())))).bind fun ⟨⟨y7_0, ⟨y7_1, y7_2⟩⟩, ()⟩ => ((c12 ([(y7_0, y7_1, y7_2)], ())).bind fun ⟨y8, ()⟩ => (bif y2_3 == 0 then ((c11 ((y2_0, (y2_1, y2_2)), ((10, (0, [(0, (y3_0, y3_1), (0, 0), 0, 0), (5, (y4_0, y4_1), (0, 0), 0, 0), (7, (y5_0, y5_1), (0, 0), 0, 0)])), ()))).bind fun ⟨y10, ()⟩ => (bif y10 then (bif y6_3 == 1 then (let v0 : Int := ↑(List.length y8); bif v0 == 2 then ((bif true && decide (0 < v0) then some () else none).bind fun () => ((y8[0]?).bind fun y15 => (bif y15 == 0 then ((bif true && decide (1 < v0) then some () else none).bind fun () => ((y8[1]?).bind fun y18 => (some (y18 == 5, ())))) else (some (false, ()))))) else (some (false, ()))) else (some (false, ()))) else (some (false, ())))) else (some (false, ()))))))))))))
def N7 : A7 → Option B7 := M7 N17 N9 N18 N12 N11
def C7 : Ctr τ := ⟨i7, o7, N7⟩
theorem g7 : GOK κ Try.prog (G7 N17 N9 N18 N12 N11) := (gok_cons s17 (gok_cons s9 (gok_cons s18 (gok_cons s12 (gok_cons s11 gok_nil)))))
theorem lall7 : ∀ Z : Zn, Z.rl = C7.o.keeps → Try.f7.ntmps ≤ Z.nt → ∀ p ∈ loops 0 (bodyOf Try.f7), ∀ C, (tabL []) p.1 = some C → LoopOK κ Try.prog Z p.2 C := fun Z h n => fun p hp => (by cases (show p ∈ ([] : List (Nat × Code)) from hp))
theorem e7 : ∀ (c17 : A17 → Option B17) (c9 : A9 → Option B9) (c18 : A18 → Option B18) (c12 : A12 → Option B12) (c11 : A11 → Option B11) x, M7 c17 c9 c18 c12 c11 x = fnE Try.prog κ (G7 c17 c9 c18 c12 c11) (tabL []) Try.f7 i7 o7 x := fun c17 c9 c18 c12 c11 x => by kernel_rfl
theorem s7 : Sound κ Try.prog C7 7 := fn_sound (S := (tabL [])) (F := Try.f7) (code := bodyOf Try.f7) (by kernel_rfl) g7 Try.func7 (by kernel_rfl) (by kernel_rfl) (by kernel_rfl) lall7 (by kernel_rfl) (by kernel_rfl) fun x y h => (e7 N17 N9 N18 N12 N11 x).symm.trans h
end Go.Proofs.Ytnlajjeppdchiaa.E
namespace Go.Proofs.Ytnlajjeppdchiaa.E
open Go
set_option linter.unusedVariables false
set_option maxRecDepth 100000
abbrev A8 : Type := ((List T27) × Unit)
abbrev B8 : Type := (Int × Unit)
def i8 : Fr τ A8 := (.val 0 (.sl 27) .nil)
def o8 : Fr τ B8 := (.val 1000 (.int .i64) .nil)
def G8 : Nat → Option (Ctr τ) := tabG []
abbrev LA8_0 : Type := ((List T27) × Int × Int × Unit)
abbrev LB8_0 : Type := (Int × Unit)
def li8_0 : Fr τ LA8_0 := (.val 0 (.sl 27) (.val 3 (.int .i64) (.val 4 (.int .i64) .nil)))
def lo8_0 : Ot τ LB8_0 := .one (.exit 0) (.val 3 (.int .i64) .nil)
def Q8_0 : LA8_0 → Option (LA8_0 ⊕ LB8_0) := fun ⟨tables', ⟨n', ⟨i', ()⟩⟩⟩ => (let v0 : Int := ↑(List.length tables'); bif decide (i' < v0) then (bif decide (n' ≤ 4096) then ((bif decide (0 ≤ i') then tables'[Int.toNat i']? else none).bind fun ⟨y2_0, ⟨y2_1, y2_2⟩⟩ => (let v1 : Int := n' + 1; let v2 : Int := IntKind.wrap IntKind.i64 v1; let v3 : Int := ↑(List.length y2_2); let v4 : Int := v2 + v3; let v5 : Int := IntKind.wrap IntKind.i64 v4; let v6 : Int := i' + 1; let v7 : Int := IntKind.wrap IntKind.i64 v6; some (.inl (tables', (v5, (v7, ())))))) else (some (.inr (n', ())))) else (some (.inr (n', ()))))
def R8_0 : LA8_0 → Option (LA8_0 ⊕ LB8_0) := Q8_0
def L8_0 : Lc τ := ⟨li8_0, itrs R8_0, lo8_0⟩
def M8 (l8_0 : LA8_0 → Option LB8_0) : A8 → Option B8 := fun ⟨tables', ()⟩ => ((l8_0 (tables', (0, (0, ())))).bind fun ⟨y0, ()⟩ => (some (y0, ())))
def N8 : A8 → Option B8 := M8 (itrs R8_0)
def C8 : Ctr τ := ⟨i8, o8, N8⟩
theorem g8 : GOK κ Try.prog (G8) := gok_nil
theorem le8_0 : ∀ x, Q8_0 x = run Try.prog κ (G8) (tabL []) 0 (loopAt Try.f8 0) (li8_0.build x) (rnd li8_0 lo8_0) := fun x => by kernel_rfl
theorem linner8_0 : ∀ Z : Zn, Z.rl = [] → 25 ≤ Z.nt → ∀ p ∈ loops 0 (loopAt Try.f8 0), ∀ C, (tabL []) p.1 = some C → LoopOK κ Try.prog Z p.2 C := fun Z h n => fun p hp => (by cases (show p ∈ ([] : List (Nat × Code)) from hp))
theorem lk8_0 : ∀ Z : Zn, Z.rl = [] → 25 ≤ Z.nt → LoopOK κ Try.prog Z (loopAt Try.f8 0) L8_0 := fun Z h n => loop_ok (S := (tabL [])) R8_0 (by kernel_rfl) g8 (by rw [h]; exact dsts_mono n _ (by kernel_rfl)) (linner8_0 Z h n) (by kernel_rfl) (by kernel_rfl) (le8_0) itrs_rounds
theorem lall8 : ∀ Z : Zn, Z.rl = C8.o.keeps → Try.f8.ntmps ≤ Z.nt → ∀ p ∈ loops 0 (bodyOf Try.f8), ∀ C, (tabL [(0, L8_0)]) p.1 = some C → LoopOK κ Try.prog Z p.2 C := fun Z h n => all_loops [(0, loopAt Try.f8 0)] (by kernel_rfl) (all_cons (fun C hC => (Option.some.inj hC : L8_0 = C) ▸ lk8_0 Z h n) (fun _ h => by cases h))
theorem e8 : ∀ (l8_0 : LA8_0 → Option LB8_0) x, M8 l8_0 x = fnE Try.prog κ (G8) (tabL [(0, (⟨li8_0, l8_0, lo8_0⟩ : Lc τ))]) Try.f8 i8 o8 x := fun l8_0 x => by kernel_rfl
theorem s8 : Sound κ Try.prog C8 8 := fn_sound (S := (tabL [(0, L8_0)])) (F := Try.f8) (code := bodyOf Try.f8) (by kernel_rfl) g8 Try.func8 (by kernel_rfl) (by kernel_rfl) (by kernel_rfl) lall8 (by kernel_rfl) (by kernel_rfl) fun x y h => (e8 (itrs R8_0) x).symm.trans h
end Go.Proofs.Ytnlajjeppdchiaa.E
namespace Go.Proofs.Ytnlajjeppdchiaa.E
open Go
set_option linter.unusedVariables false
set_option maxRecDepth 100000
abbrev A13 : Type := ((List T27) × Unit)
abbrev B13 : Type := ((List T2) × Unit)
def i13 : Fr τ A13 := (.val 0 (.sl 27) .nil)
def o13 : Fr τ B13 := (.own 1000 2 .nil)
def G13 : Nat → Option (Ctr τ) := tabG []
abbrev LA13_4 : Type := ((List T27) × (List T2) × Bool × Int × Int × Int × Unit)
abbrev LB13_4 : Type := ((List T27) × (List T2) × Bool × Int × Int × Unit)
def li13_4 : Fr τ LA13_4 := (.val 0 (.sl 27) (.own 3 2 (.val 4 .bool (.val 5 (.int .i64) (.val 6 (.int .i64) (.val 7 (.int .i64) .nil))))))
def lo13_4 : Ot τ LB13_4 := .one (.exit 4) (.val 0 (.sl 27) (.own 3 2 (.val 4 .bool (.val 5 (.int .i64) (.val 6 (.int .i64) .nil)))))
def Q13_4 : LA13_4 → Option (LA13_4 ⊕ LB13_4) := fun ⟨tables', ⟨out', ⟨found', ⟨least', ⟨i', ⟨k', ()⟩⟩⟩⟩⟩⟩ => ((bif decide (0 ≤ i') then tables'[Int.toNat i']? else none).bind fun ⟨y0_0, ⟨y0_1, y0_2⟩⟩ => (let v0 : Int := ↑(List.length y0_2); bif decide (k' < v0) then ((bif decide (0 ≤ i') then tables'[Int.toNat i']? else none).bind fun ⟨y2_0, ⟨y2_1, y2_2⟩⟩ => ((bif decide (0 ≤ k') then y2_2[Int.toNat k']? else none).bind fun ⟨y3_0, ⟨⟨y3_1, y3_2⟩, ⟨⟨y3_3, y3_4⟩, ⟨y3_5, y3_6⟩⟩⟩⟩ => (let v1 : Int := ↑(List.length out'); bif v1 == 0 then (bif !found' then (let v2 : Int := k' + 1; let v3 : Int := IntKind.wrap IntKind.i64 v2; some (.inl (tables', (out', (true, (y3_0, (i', (v3, ())))))))) else (bif decide (y3_0 < least') then (let v2 : Int := k' + 1; let v3 : Int := IntKind.wrap IntKind.i64 v2; some (.inl (tables', (out', (true, (y3_0, (i', (v3, ())))))))) else (let v2 : Int := k' + 1; let v3 : Int := IntKind.wrap IntKind.i64 v2; some (.inl (tables', (out', (found', (least', (i', (v3, ())))))))))) else (let v2 : Int := v1 - 1; let v3 : Int := IntKind.wrap IntKind.i64 v2; (bif decide (0 ≤ v3) && decide (v3 < v1) then some () else none).bind fun () => ((out'[Int.toNat v3]?).bind fun y6 => (bif decide (y3_0 > y6) then (bif !found' then (let v4 : Int := k' + 1; let v5 : Int := IntKind.wrap IntKind.i64 v4; some (.inl (tables', (out', (true, (y3_0, (i', (v5, ())))))))) else (bif decide (y3_0 < least') then (let v4 : Int := k' + 1; let v5 : Int := IntKind.wrap IntKind.i64 v4; some (.inl (tables', (out', (true, (y3_0, (i', (v5, ())))))))) else (let v4 : Int := k' + 1; let v5 : Int := IntKind.wrap IntKind.i64 v4; some (.inl (tables', (out', (found', (least', (i', (v5, ())))))))))) else (let v4 : Int := k' + 1; let v5 : Int := IntKind.wrap IntKind.i64 v4; some (.inl (tables', (out', (found', (least', (i', (v5, ())))))))))))))) else (some (.inr (tables', (out', (found', (least', (i', ())))))))))
def R13_4 : LA13_4 → Option (LA13_4 ⊕ LB13_4) := Q13_4
def L13_4 : Lc τ := ⟨li13_4, itrs R13_4, lo13_4⟩
abbrev LA13_2 : Type := ((List T27) × (List T2) × Bool × Int × Int × Unit)
abbrev LB13_2 : Type := ((List T27) × (List T2) × Bool × Int × Unit)
def li13_2 : Fr τ LA13_2 := (.val 0 (.sl 27) (.own 3 2 (.val 4 .bool (.val 5 (.int .i64) (.val 6 (.int .i64) .nil)))))
def lo13_2 : Ot τ LB13_2 := .one (.exit 2) (.val 0 (.sl 27) (.own 3 2 (.val 4 .bool (.val 5 (.int .i64) .nil))))
def Q13_2 (l13_4 : LA13_4 → Option LB13_4) : LA13_2 → Option (LA13_2 ⊕ LB13_2) := fun ⟨tables', ⟨out', ⟨found', ⟨least', ⟨i', ()⟩⟩⟩⟩⟩ => (let v0 : Int := ↑(List.length tables'); bif decide (i' < v0) then ((l13_4 (tables', (out', (found', (least', (i', (0, ()))))))).bind fun ⟨y1_0, ⟨y1_1, ⟨y1_2, ⟨y1_3, ⟨y1_4, ()⟩⟩⟩⟩⟩ => (let v1 : Int := y1_4 + 1; let v2 : Int := IntKind.wrap IntKind.i64 v1; some (.inl (y1_0, (y1_1, (y1_2, (y1_3, (v2, ())))))))) else (some (.inr (tables', (out', (found', (least', ())))))))
def R13_2 : LA13_2 → Option (LA13_2 ⊕ LB13_2) := Q13_2 (itrs R13_4)
def L13_2 : Lc τ := ⟨li13_2, itrs R13_2, lo13_2⟩
abbrev LA13_0 : Type := ((List T27) × (List T2) × Unit)
abbrev LB13_0 : Type := ((List T2) × Unit)
def li13_0 : Fr τ LA13_0 := (.val 0 (.sl 27) (.own 3 2 .nil))
def lo13_0 : Ot τ LB13_0 := .one .ret (.own 2 2 .nil)
def Q13_0 (l13_2 : LA13_2 → Option LB13_2) : LA13_0 → Option (LA13_0 ⊕ LB13_0) := fun ⟨tables', ⟨out', ()⟩⟩ => ((l13_2 (tables', (out', (false, (0, (0, ())))))).bind fun ⟨y0_0, ⟨y0_1, ⟨y0_2, ⟨y0_3, ()⟩⟩⟩⟩ => (bif !y0_2 then (some (.inr (y0_1, ()))) else ((bif decide ((List.length y0_1 + 1) * 8 ≤ 210000000000000) then some () else none).bind fun () => (some (.inl (y0_0, (y0_1 ++ [y0_3], ())))))))
def R13_0 : LA13_0 → Option (LA13_0 ⊕ LB13_0) := Q13_0 (itrs R13_2)
def L13_0 : Lc τ := ⟨li13_0, itrs R13_0, lo13_0⟩
def M13 (l13_0 : LA13_0 → Option LB13_0) : A13 → Option B13 := fun ⟨tables', ()⟩ => ((l13_0 (tables', ([], ()))).bind fun ⟨y0, ()⟩ => (some (y0, ())))
def N13 : A13 → Option B13 := M13 (itrs R13_0)
def C13 : Ctr τ := ⟨i13, o13, N13⟩
theorem g13 : GOK κ Try.prog (G13) := gok_nil
theorem le13_4 : ∀ x, Q13_4 x = run Try.prog κ (G13) (tabL []) 4 (loopAt Try.f13 2) (li13_4.build x) (rnd li13_4 lo13_4) := fun x => by kernel_rfl
theorem le13_2 : ∀ (l13_4 : LA13_4 → Option LB13_4) x, Q13_2 l13_4 x = run Try.prog κ (G13) (tabL [(4, (⟨li13_4, l13_4, lo13_4⟩ : Lc τ))]) 2 (loopAt Try.f13 1) (li13_2.build x) (rnd li13_2 lo13_2) := fun l13_4 x => by kernel_rfl
theorem le13_0 : ∀ (l13_2 : LA13_2 → Option LB13_2) x, Q13_0 l13_2 x = run Try.prog κ (G13) (tabL [(2, (⟨li13_2, l13_2, lo13_2⟩ : Lc τ))]) 0 (loopAt Try.f13 0) (li13_0.build x) (rnd li13_0 lo13_0) := fun l13_2 x => by kernel_rfl
theorem linner13_4 : ∀ Z : Zn, Z.rl = [] → 64 ≤ Z.nt → ∀ p ∈ loops 4 (loopAt Try.f13 2), ∀ C, (tabL []) p.1 = some C → LoopOK κ Try.prog Z p.2 C := fun Z h n => fun p hp => (by cases (show p ∈ ([] : List (Nat × Code)) from hp))
theorem lk13_4 : ∀ Z : Zn, Z.rl = [] → 64 ≤ Z.nt → LoopOK κ Try.prog Z (loopAt Try.f13 2) L13_4 := fun Z h n => loop_ok (S := (tabL [])) R13_4 (by kernel_rfl) g13 (by rw [h]; exact dsts_mono n _ (by kernel_rfl)) (linner13_4 Z h n) (by kernel_rfl) (by kernel_rfl) (le13_4) itrs_rounds
theorem linner13_2 : ∀ Z : Zn, Z.rl = [] → 64 ≤ Z.nt → ∀ p ∈ loops 2 (loopAt Try.f13 1), ∀ C, (tabL [(4, L13_4)]) p.1 = some C → LoopOK κ Try.prog Z p.2 C := fun Z h n => all_loops [(4, loopAt Try.f13 2)] (by kernel_rfl) (all_cons (fun C hC => (Option.some.inj hC : L13_4 = C) ▸ lk13_4 Z h n) (fun _ h => by cases h))
theorem lk13_2 : ∀ Z : Zn, Z.rl = [] → 64 ≤ Z.nt → LoopOK κ Try.prog Z (loopAt Try.f13 1) L13_2 := fun Z h n => loop_ok (S := (tabL [(4, L13_4)])) R13_2 (by kernel_rfl) g13 (by rw [h]; exact dsts_mono n _ (by kernel_rfl)) (linner13_2 Z h n) (by kernel_rfl) (by kernel_rfl) (le13_2 (itrs R13_4)) itrs_rounds
theorem linner13_0 : ∀ Z : Zn, Z.rl = [] → 64 ≤ Z.nt → ∀ p ∈ loops 0 (loopAt Try.f13 0), ∀ C, (tabL [(2, L13_2)]) p.1 = some C → LoopOK κ Try.prog Z p.2 C := fun Z h n => all_loops [(2, loopAt Try.f13 1), (4, loopAt Try.f13 2)] (by kernel_rfl) (all_cons (fun C hC => (Option.some.inj hC : L13_2 = C) ▸ lk13_2 Z h n) (all_cons (fun C hC => by cases hC) (fun _ h => by cases h)))
theorem lk13_0 : ∀ Z : Zn, Z.rl = [] → 64 ≤ Z.nt → LoopOK κ Try.prog Z (loopAt Try.f13 0) L13_0 := fun Z h n => loop_ok (S := (tabL [(2, L13_2)])) R13_0 (by kernel_rfl) g13 (by rw [h]; exact dsts_mono n _ (by kernel_rfl)) (linner13_0 Z h n) (by kernel_rfl) (by kernel_rfl) (le13_0 (itrs R13_2)) itrs_rounds
theorem lall13 : ∀ Z : Zn, Z.rl = C13.o.keeps → Try.f13.ntmps ≤ Z.nt → ∀ p ∈ loops 0 (bodyOf Try.f13), ∀ C, (tabL [(0, L13_0)]) p.1 = some C → LoopOK κ Try.prog Z p.2 C := fun Z h n => all_loops [(0, loopAt Try.f13 0), (2, loopAt Try.f13 1), (4, loopAt Try.f13 2)] (by kernel_rfl) (all_cons (fun C hC => (Option.some.inj hC : L13_0 = C) ▸ lk13_0 Z h n) (all_cons (fun C hC => by cases hC) (all_cons (fun C hC => by cases hC) (fun _ h => by cases h))))
theorem e13 : ∀ (l13_0 : LA13_0 → Option LB13_0) x, M13 l13_0 x = fnE Try.prog κ (G13) (tabL [(0, (⟨li13_0, l13_0, lo13_0⟩ : Lc τ))]) Try.f13 i13 o13 x := fun l13_0 x => by kernel_rfl
theorem s13 : Sound κ Try.prog C13 13 := fn_sound (S := (tabL [(0, L13_0)])) (F := Try.f13) (code := bodyOf Try.f13) (by kernel_rfl) g13 Try.func13 (by kernel_rfl) (by kernel_rfl) (by kernel_rfl) lall13 (by kernel_rfl) (by kernel_rfl) fun x y h => (e13 (itrs R13_0) x).symm.trans h
end Go.Proofs.Ytnlajjeppdchiaa.E
namespace Go.Proofs.Ytnlajjeppdchiaa.E
open Go
set_option linter.unusedVariables false
set_option maxRecDepth 100000
abbrev A4 : Type := ((List T27) × Unit)
abbrev B4 : Type := (Bool × Unit)
def i4 : Fr τ A4 := (.val 0 (.sl 27) .nil)
def o4 : Fr τ B4 := (.val 1000 .bool .nil)
def G4 (c7 : A7 → Option B7) (c8 : A8 → Option B8) (c12 : A12 → Option B12) (c13 : A13 → Option B13) : Nat → Option (Ctr τ) := tabG [(7, (⟨i7, o7, c7⟩ : Ctr τ)), (8, (⟨i8, o8, c8⟩ : Ctr τ)), (12, (⟨i12, o12, c12⟩ : Ctr τ)), (13, (⟨i13, o13, c13⟩ : Ctr τ))]
abbrev LA4_0 : Type := ((List T2) × (List T2) × Int × Unit)
abbrev LB4_0 : Type := (Unit) ⊕ (Bool × Unit)
def li4_0 : Fr τ LA4_0 := (.own 3 2 (.own 4 2 (.val 5 (.int .i64) .nil)))
def lo4_0 : Ot τ LB4_0 := .alt (.exit 0) .nil (.one .ret (.val 2 .bool .nil))
def Q4_0 (c7 : A7 → Option B7) (c8 : A8 → Option B8) (c12 : A12 → Option B12) (c13 : A13 → Option B13) : LA4_0 → Option (LA4_0 ⊕ LB4_0) := fun ⟨a', ⟨b', ⟨i', ()⟩⟩⟩ => (let v0 : Int := ↑(List.length a'); bif decide (i' < v0) then ((bif decide (0 ≤ i') && decide (i' < v0) then some () else none).bind fun () => ((a'[Int.toNat i']?).bind fun y2 => (let v1 : Int := ↑(List.length b'); (bif decide (0 ≤ i') && decide (i' < v1) then some () else none).bind fun () => ((b'[Int.toNat i']?).bind fun y4 => (bif y2 != y4 then (some (.inr (.inr (false, ())))) else (let v2 : Int := i' + 1; let v3 : Int := IntKind.wrap IntKind.i64 v2; some (.inl (a', (b', (v3, ())))))))))) else (some (.inr (.inl ()))))
def R4_0 : LA4_0 → Option (LA4_0 ⊕ LB4_0) := Q4_0 N7 N8 N12 N13
def L4_0 : Lc τ := ⟨li4_0, itrs R4_0, lo4_0⟩
def M4 (c7 : A7 → Option B7) (c8 : A8 → Option B8) (c12 : A12 → Option B12) (c13 : A13 → Option B13) (l4_0 : LA4_0 → Option LB4_0) : A4 → Option B4 := fun ⟨tables', ()⟩ => ((c7 ()).bind fun ⟨y0, ()⟩ => (bif !y0 then (some (false, ())) else ((c8 (tables', ())).bind fun ⟨y2, ()⟩ => (bif decide (y2 > 4096) then (some (true, ())) else ((c12 (tables', ())).bind fun ⟨y4, ()⟩ => ((c13 (tables', ())).bind fun ⟨y5, ()⟩ => (let v0 : Int := ↑(List.length y4); let v1 : Int := ↑(List.length y5); bif v0 != v1 then (some (false, ())) else ((l4_0 (y4, (y5, (0, ())))).bind fun y7 => (match y7 with | .inl () => (some (true, ())) | .inr ⟨y8, ()⟩ => (some (y8, ())))))))))))
def N4 : A4 → Option B4 := M4 N7 N8 N12 N13 (itrs R4_0)
def C4 : Ctr τ := ⟨i4, o4, N4⟩
theorem g4 : GOK κ Try.prog (G4 N7 N8 N12 N13) := (gok_cons s7 (gok_cons s8 (gok_cons s12 (gok_cons s13 gok_nil))))
theorem le4_0 : ∀ (c7 : A7 → Option B7) (c8 : A8 → Option B8) (c12 : A12 → Option B12) (c13 : A13 → Option B13) x, Q4_0 c7 c8 c12 c13 x = run Try.prog κ (G4 c7 c8 c12 c13) (tabL []) 0 (loopAt Try.f4 0) (li4_0.build x) (rnd li4_0 lo4_0) := fun c7 c8 c12 c13 x => by kernel_rfl
theorem linner4_0 : ∀ Z : Zn, Z.rl = [] → 35 ≤ Z.nt → ∀ p ∈ loops 0 (loopAt Try.f4 0), ∀ C, (tabL []) p.1 = some C → LoopOK κ Try.prog Z p.2 C := fun Z h n => fun p hp => (by cases (show p ∈ ([] : List (Nat × Code)) from hp))
theorem lk4_0 : ∀ Z : Zn, Z.rl = [] → 35 ≤ Z.nt → LoopOK κ Try.prog Z (loopAt Try.f4 0) L4_0 := fun Z h n => loop_ok (S := (tabL [])) R4_0 (by kernel_rfl) g4 (by rw [h]; exact dsts_mono n _ (by kernel_rfl)) (linner4_0 Z h n) (by kernel_rfl) (by kernel_rfl) (le4_0 N7 N8 N12 N13) itrs_rounds
theorem lall4 : ∀ Z : Zn, Z.rl = C4.o.keeps → Try.f4.ntmps ≤ Z.nt → ∀ p ∈ loops 0 (bodyOf Try.f4), ∀ C, (tabL [(0, L4_0)]) p.1 = some C → LoopOK κ Try.prog Z p.2 C := fun Z h n => all_loops [(0, loopAt Try.f4 0)] (by kernel_rfl) (all_cons (fun C hC => (Option.some.inj hC : L4_0 = C) ▸ lk4_0 Z h n) (fun _ h => by cases h))
theorem e4 : ∀ (c7 : A7 → Option B7) (c8 : A8 → Option B8) (c12 : A12 → Option B12) (c13 : A13 → Option B13) (l4_0 : LA4_0 → Option LB4_0) x, M4 c7 c8 c12 c13 l4_0 x = fnE Try.prog κ (G4 c7 c8 c12 c13) (tabL [(0, (⟨li4_0, l4_0, lo4_0⟩ : Lc τ))]) Try.f4 i4 o4 x := fun c7 c8 c12 c13 l4_0 x => by kernel_rfl
theorem s4 : Sound κ Try.prog C4 4 := fn_sound (S := (tabL [(0, L4_0)])) (F := Try.f4) (code := bodyOf Try.f4) (by kernel_rfl) g4 Try.func4 (by kernel_rfl) (by kernel_rfl) (by kernel_rfl) lall4 (by kernel_rfl) (by kernel_rfl) fun x y h => (e4 N7 N8 N12 N13 (itrs R4_0) x).symm.trans h
end Go.Proofs.Ytnlajjeppdchiaa.E
namespace Go.Proofs.Ytnlajjeppdchiaa.E
open Go
set_option linter.unusedVariables false
set_option maxRecDepth 100000
abbrev A22 : Type := ((Int × (Int × (List T43))) × Unit)
abbrev B22 : Type := (Bool × Unit)
def i22 : Fr τ A22 := (.val 0 (.pair (.int .i64) (.pair (.int .i64) (.sl 43))) .nil)
def o22 : Fr τ B22 := (.val 1000 .bool .nil)
def G22 : Nat → Option (Ctr τ) := tabG []
abbrev LA22_0 : Type := ((Int × (Int × ((List T43) × Unit))) × Int × Unit)
abbrev LB22_0 : Type := (Unit) ⊕ (Bool × Unit)
def li22_0 : Fr τ LA22_0 := (.ptr 1 none 27 (.val (.int .i64) (.val (.int .i64) (.val (.sl 43) .nil))) (.val 3 (.int .i64) .nil))
def lo22_0 : Ot τ LB22_0 := .alt (.exit 0) .nil (.one .ret (.val 2 .bool .nil))
def Q22_0 : LA22_0 → Option (LA22_0 ⊕ LB22_0) := fun ⟨⟨t'_0, ⟨t'_1, ⟨t'_2, ()⟩⟩⟩, ⟨i', ()⟩⟩ => (let v0 : Int := ↑(List.length t'_2); bif decide (i' < v0) then ((bif decide (0 ≤ i') then t'_2[Int.toNat i']? else none).bind fun ⟨y1_0, ⟨⟨y1_1, y1_2⟩, ⟨⟨y1_3, y1_4⟩, ⟨y1_5, y1_6⟩⟩⟩⟩ => (bif decide (y1_0 > 1099511627776) then (some (.inr (.inr (false, ())))) else (bif i' == 0 then ((bif decide (0 ≤ i') then t'_2[Int.toNat i']? else none).bind fun ⟨y4_0, ⟨⟨y4_1, y4_2⟩, ⟨⟨y4_3, y4_4⟩, ⟨y4_5, y4_6⟩⟩⟩⟩ => (bif y4_0 != 0 then (some (.inr (.inr (false, ())))) else (bif decide (i' > 0) then (let v1 : Int := i' - 1; let v2 : Int := IntKind.wrap IntKind.i64 v1; (bif decide (0 ≤ v2) then t'_2[Int.toNat v2]? else none).bind fun ⟨y7_0, ⟨⟨y7_1, y7_2⟩, ⟨⟨y7_3, y7_4⟩, ⟨y7_5, y7_6⟩⟩⟩⟩ => ((bif decide (0 ≤ i') then t'_2[Int.toNat i']? else none).bind fun ⟨y8_0, ⟨⟨y8_1, y8_2⟩, ⟨⟨y8_3, y8_4⟩, ⟨y8_5, y8_6⟩⟩⟩⟩ => (bif decide (y7_0 ≥ y8_0) then (some (.inr (.inr (false, ())))) else ((bif decide (0 ≤ v2) then t'_2[Int.toNat v2]? else none).bind fun ⟨y10_0, ⟨⟨y10_1, y10_2⟩, ⟨⟨y10_3, y10_4⟩, ⟨y10_5, y10_6⟩⟩⟩⟩ => ((bif decide (0 ≤ i') then t'_2[Int.toNat i']? else none).bind fun ⟨y11_0, ⟨⟨y11_1, y11_2⟩, ⟨⟨y11_3, y11_4⟩, ⟨y11_5, y11_6⟩⟩⟩⟩ => (bif y10_1 == y11_1 && y10_2 == y11_2 && (y10_3 == y11_3 && y10_4 == y11_4 && (y10_5 == y11_5 && y10_6 == y11_6)) then (some (.inr (.inr (false, ())))) else (let v3 : Int := i' + 1; let v4 : Int := IntKind.wrap IntKind.i64 v3; some (.inl ((t'_0, (t'_1, (t'_2, ()))), (v4, ())))))))))) else (let v1 : Int := i' + 1; let v2 : Int := IntKind.wrap IntKind.i64 v1; some (.inl ((t'_0, (t'_1, (t'_2, ()))), (v2, ()))))))) else (bif decide (i' > 0) then (let v1 : Int := i' - 1; let v2 : Int := IntKind.wrap IntKind.i64 v1; (bif decide (0 ≤ v2) then t'_2[Int.toNat v2]? else none).bind fun ⟨y5_0, ⟨⟨y5_1, y5_2⟩, ⟨⟨y5_3, y5_4⟩, ⟨y5_5, y5_6⟩⟩⟩⟩ => ((bif decide (0 ≤ i') then t'_2[Int.toNat i']? else none).bind fun ⟨y6_0, ⟨⟨y6_1, y6_2⟩, ⟨⟨y6_3, y6_4⟩, ⟨y6_5, y6_6⟩⟩⟩⟩ => (bif decide (y5_0 ≥ y6_0) then (some (.inr (.inr (false, ())))) else ((bif decide (0 ≤ v2) then t'_2[Int.toNat v2]? else none).bind fun ⟨y8_0, ⟨⟨y8_1, y8_2⟩, ⟨⟨y8_3, y8_4⟩, ⟨y8_5, y8_6⟩⟩⟩⟩ => ((bif decide (0 ≤ i') then t'_2[Int.toNat i']? else none).bind fun ⟨y9_0, ⟨⟨y9_1, y9_2⟩, ⟨⟨y9_3, y9_4⟩, ⟨y9_5, y9_6⟩⟩⟩⟩ => (bif y8_1 == y9_1 && y8_2 == y9_2 && (y8_3 == y9_3 && y8_4 == y9_4 && (y8_5 == y9_5 && y8_6 == y9_6)) then (some (.inr (.inr (false, ())))) else (let v3 : Int := i' + 1; let v4 : Int := IntKind.wrap IntKind.i64 v3; some (.inl ((t'_0, (t'_1, (t'_2, ()))), (v4, ())))))))))) else (let v1 : Int := i' + 1; let v2 : Int := IntKind.wrap IntKind.i64 v1; some (.inl ((t'_0, (t'_1, (t'_2, ()))), (v2, ())))))))) else (some (.inr (.inl ()))))
def R22_0 : LA22_0 → Option (LA22_0 ⊕ LB22_0) := Q22_0
def L22_0 : Lc τ := ⟨li22_0, itrs R22_0, lo22_0⟩
def M22 (l22_0 : LA22_0 → Option LB22_0) : A22 → Option B22 := fun ⟨⟨t'_0, ⟨t'_1, t'_2⟩⟩, ()⟩ => (bif decide (t'_0 < 1) then (some (false, ())) else (bif decide (t'_0 > 1000000000000) then (some (false, ())) else (bif decide (t'_1 < 0) then (some (false, ())) else (bif decide (t'_1 > 6) then (some (false, ())) else (let v0 : Int := ↑(List.length t'_2); bif v0 == 0 then (some (false, ())) else (bif decide (v0 > 256) then (some (false, ())) else ((l22_0 ((t'_0, (t'_1, (t'_2, ()))), (0, ()))).bind fun y6 => (match y6 with | .inl () => (some (true, ())) | .inr ⟨y7, ()⟩ => (some (y7, ()))))))))))
def N22 : A22 → Option B22 := M22 (itrs R22_0)
def C22 : Ctr τ := ⟨i22, o22, N22⟩
theorem g22 : GOK κ Try.prog (G22) := gok_nil
theorem le22_0 : ∀ x, Q22_0 x = run Try.prog κ (G22) (tabL []) 0 (loopAt Try.f22 0) (li22_0.build x) (rnd li22_0 lo22_0) := fun x => by kernel_rfl
theorem linner22_0 : ∀ Z : Zn, Z.rl = [] → 95 ≤ Z.nt → ∀ p ∈ loops 0 (loopAt Try.f22 0), ∀ C, (tabL []) p.1 = some C → LoopOK κ Try.prog Z p.2 C := fun Z h n => fun p hp => (by cases (show p ∈ ([] : List (Nat × Code)) from hp))
theorem lk22_0 : ∀ Z : Zn, Z.rl = [] → 95 ≤ Z.nt → LoopOK κ Try.prog Z (loopAt Try.f22 0) L22_0 := fun Z h n => loop_ok (S := (tabL [])) R22_0 (by kernel_rfl) g22 (by rw [h]; exact dsts_mono n _ (by kernel_rfl)) (linner22_0 Z h n) (by kernel_rfl) (by kernel_rfl) (le22_0) itrs_rounds
theorem lall22 : ∀ Z : Zn, Z.rl = C22.o.keeps → Try.f22.ntmps ≤ Z.nt → ∀ p ∈ loops 0 (bodyOf Try.f22), ∀ C, (tabL [(0, L22_0)]) p.1 = some C → LoopOK κ Try.prog Z p.2 C := fun Z h n => all_loops [(0, loopAt Try.f22 0)] (by kernel_rfl) (all_cons (fun C hC => (Option.some.inj hC : L22_0 = C) ▸ lk22_0 Z h n) (fun _ h => by cases h))
theorem e22 : ∀ (l22_0 : LA22_0 → Option LB22_0) x, M22 l22_0 x = fnE Try.prog κ (G22) (tabL [(0, (⟨li22_0, l22_0, lo22_0⟩ : Lc τ))]) Try.f22 i22 o22 x := fun l22_0 x => by kernel_rfl
theorem s22 : Sound κ Try.prog C22 22 := fn_sound (S := (tabL [(0, L22_0)])) (F := Try.f22) (code := bodyOf Try.f22) (by kernel_rfl) g22 Try.func22 (by kernel_rfl) (by kernel_rfl) (by kernel_rfl) lall22 (by kernel_rfl) (by kernel_rfl) fun x y h => (e22 (itrs R22_0) x).symm.trans h
end Go.Proofs.Ytnlajjeppdchiaa.E
namespace Go.Proofs.Ytnlajjeppdchiaa.E
open Go
set_option linter.unusedVariables false
set_option maxRecDepth 100000
abbrev A32 : Type := ((List T43) × Int × Unit)
abbrev B32 : Type := (Int × Unit)
def i32 : Fr τ A32 := (.val 0 (.sl 43) (.val 1 (.int .i64) .nil))
def o32 : Fr τ B32 := (.val 1000 (.int .i64) .nil)
def G32 : Nat → Option (Ctr τ) := tabG []
abbrev LA32_0 : Type := ((List T43) × Int × Int × Unit)
abbrev LB32_0 : Type := (Int × Unit)
def li32_0 : Fr τ LA32_0 := (.val 0 (.sl 43) (.val 1 (.int .i64) (.val 5 (.int .i64) .nil)))
def lo32_0 : Ot τ LB32_0 := .one (.exit 0) (.val 5 (.int .i64) .nil)
def Q32_0 : LA32_0 → Option (LA32_0 ⊕ LB32_0) := fun ⟨l', ⟨q', ⟨i', ()⟩⟩⟩ => (let v0 : Int := ↑(List.length l'); let v1 : Int := v0 - 1; let v2 : Int := IntKind.wrap IntKind.i64 v1; bif decide (i' < v2) then (let v3 : Int := i' + 1; let v4 : Int := IntKind.wrap IntKind.i64 v3; (bif decide (0 ≤ v4) then l'[Int.toNat v4]? else none).bind fun ⟨y1_0, ⟨⟨y1_1, y1_2⟩, ⟨⟨y1_3, y1_4⟩, ⟨y1_5, y1_6⟩⟩⟩⟩ => (bif decide (y1_0 ≤ q') then (some (.inl (l', (q', (v4, ()))))) else (some (.inr (i', ()))))) else (some (.inr (i', ()))))
def R32_0 : LA32_0 → Option (LA32_0 ⊕ LB32_0) := Q32_0
def L32_0 : Lc τ := ⟨li32_0, itrs R32_0, lo32_0⟩
def M32 (l32_0 : LA32_0 → Option LB32_0) : A32 → Option B32 := fun ⟨l', ⟨q', ()⟩⟩ => ((l32_0 (l', (q', (0, ())))).bind fun ⟨y0, ()⟩ => (some (y0, ())))
def N32 : A32 → Option B32 := M32 (itrs R32_0)
def C32 : Ctr τ := ⟨i32, o32, N32⟩
theorem g32 : GOK κ Try.prog (G32) := gok_nil
theorem le32_0 : ∀ x, Q32_0 x = run Try.prog κ (G32) (tabL []) 0 (loopAt Try.f32 0) (li32_0.build x) (rnd li32_0 lo32_0) := fun x => by kernel_rfl
theorem linner32_0 : ∀ Z : Zn, Z.rl = [] → 24 ≤ Z.nt → ∀ p ∈ loops 0 (loopAt Try.f32 0), ∀ C, (tabL []) p.1 = some C → LoopOK κ Try.prog Z p.2 C := fun Z h n => fun p hp => (by cases (show p ∈ ([] : List (Nat × Code)) from hp))
theorem lk32_0 : ∀ Z : Zn, Z.rl = [] → 24 ≤ Z.nt → LoopOK κ Try.prog Z (loopAt Try.f32 0) L32_0 := fun Z h n => loop_ok (S := (tabL [])) R32_0 (by kernel_rfl) g32 (by rw [h]; exact dsts_mono n _ (by kernel_rfl)) (linner32_0 Z h n) (by kernel_rfl) (by kernel_rfl) (le32_0) itrs_rounds
theorem lall32 : ∀ Z : Zn, Z.rl = C32.o.keeps → Try.f32.ntmps ≤ Z.nt → ∀ p ∈ loops 0 (bodyOf Try.f32), ∀ C, (tabL [(0, L32_0)]) p.1 = some C → LoopOK κ Try.prog Z p.2 C := fun Z h n => all_loops [(0, loopAt Try.f32 0)] (by kernel_rfl) (all_cons (fun C hC => (Option.some.inj hC : L32_0 = C) ▸ lk32_0 Z h n) (fun _ h => by cases h))
theorem e32 : ∀ (l32_0 : LA32_0 → Option LB32_0) x, M32 l32_0 x = fnE Try.prog κ (G32) (tabL [(0, (⟨li32_0, l32_0, lo32_0⟩ : Lc τ))]) Try.f32 i32 o32 x := fun l32_0 x => by kernel_rfl
theorem s32 : Sound κ Try.prog C32 32 := fn_sound (S := (tabL [(0, L32_0)])) (F := Try.f32) (code := bodyOf Try.f32) (by kernel_rfl) g32 Try.func32 (by kernel_rfl) (by kernel_rfl) (by kernel_rfl) lall32 (by kernel_rfl) (by kernel_rfl) fun x y h => (e32 (itrs R32_0) x).symm.trans h
end Go.Proofs.Ytnlajjeppdchiaa.E
namespace Go.Proofs.Ytnlajjeppdchiaa.E
open Go
set_option linter.unusedVariables false
set_option maxRecDepth 100000
abbrev A41 : Type := ((Int × Int) × Unit)
abbrev B41 : Type := (List Int × Unit)
def i41 : Fr τ A41 := (.val 0 (.pair (.int .i64) (.int .u64)) .nil)
def o41 : Fr τ B41 := (.arr 1000 12 .u64 .nil)
def G41 : Nat → Option (Ctr τ) := tabG []
abbrev LA41_2 : Type := (List Int × List Int × Int × Unit)
abbrev LB41_2 : Type := (List Int × List Int × Unit)
def li41_2 : Fr τ LA41_2 := (.aptr 2 12 .u64 (.aptr 3 12 .u64 (.val 5 (.int .i64) .nil)))
def lo41_2 : Ot τ LB41_2 := .one (.exit 2) (.aptr 2 12 .u64 (.aptr 3 12 .u64 .nil))
def Q41_2 : LA41_2 → Option (LA41_2 ⊕ LB41_2) := fun ⟨t2', ⟨l', ⟨i', ()⟩⟩⟩ => (bif decide (i' < 12) then ((bif decide (0 ≤ i') && decide (i' < 12) then some () else none).bind fun () => ((bif Nat.blt (Int.toNat i') 12 then some () else none).bind fun () => (let v0 : Int := i' + 1; let v1 : Int := IntKind.wrap IntKind.i64 v0; some (.inl (t2', (List.set l' (Int.toNat i') 65535, (v1, ()))))))) else (some (.inr (t2', (l', ())))))
def R41_2 : LA41_2 → Option (LA41_2 ⊕ LB41_2) := Q41_2
def L41_2 : Lc τ := ⟨li41_2, itrs R41_2, lo41_2⟩
abbrev LA41_0 : Type := ((Int × (Int × Unit)) × List Int × List Int × Int × Unit)
abbrev LB41_0 : Type := ((Int × (Int × Unit)) × List Int × List Int × Unit)
def li41_0 : Fr τ LA41_0 := (.ptr 1 none 39 (.val (.int .i64) (.val (.int .u64) .nil)) (.aptr 2 12 .u64 (.aptr 3 12 .u64 (.val 4 (.int .i64) .nil))))
def lo41_0 : Ot τ LB41_0 := .one (.exit 0) (.ptr 1 none 39 (.val (.int .i64) (.val (.int .u64) .nil)) (.aptr 2 12 .u64 (.aptr 3 12 .u64 .nil)))
def Q41_0 : LA41_0 → Option (LA41_0 ⊕ LB41_0) := fun ⟨⟨w'_0, ⟨w'_1, ()⟩⟩, ⟨t2', ⟨l', ⟨i', ()⟩⟩⟩⟩ => (bif decide (i' < 4) then (let v0 : Int := 16 * i'; let v1 : Int := IntKind.wrap IntKind.i64 v0; let v2 : Int := IntKind.wrap IntKind.u64 v1; (bif decide (0 ≤ v2) then some () else none).bind fun () => ((bif decide (0 ≤ i') && decide (i' < 12) then some () else none).bind fun () => ((bif Nat.blt (Int.toNat i') 12 then some () else none).bind fun () => ((bif decide (0 ≤ v2) then some () else none).bind fun () => (let v3 : Int := i' + 4; let v4 : Int := IntKind.wrap IntKind.i64 v3; (bif decide (0 ≤ v4) && decide (v4 < 12) then some () else none).bind fun () => ((bif Nat.blt (Int.toNat v4) 12 then some () else none).bind fun () => (let v5 : Int := Int.fdiv w'_1 (2 ^ min (Int.toNat v2) 64); let v6 : Int := Int.tmod v5 65536; let v7 : Int := IntKind.wrap IntKind.u64 w'_0; let v8 : Int := Int.fdiv v7 (2 ^ min (Int.toNat v2) 64); let v9 : Int := Int.tmod v8 65536; let v10 : Int := i' + 1; let v11 : Int := IntKind.wrap IntKind.i64 v10; some (.inl ((w'_0, (w'_1, ())), (t2', (List.set (List.set l' (Int.toNat i') v6) (Int.toNat v4) v9, (v11, ())))))))))))) else (some (.inr ((w'_0, (w'_1, ())), (t2', (l', ()))))))
def R41_0 : LA41_0 → Option (LA41_0 ⊕ LB41_0) := Q41_0
def L41_0 : Lc τ := ⟨li41_0, itrs R41_0, lo41_0⟩
def M41 (l41_0 : LA41_0 → Option LB41_0) (l41_2 : LA41_2 → Option LB41_2) : A41 → Option B41 := fun ⟨⟨w'_0, w'_1⟩, ()⟩ => ((l41_0 ((w'_0, (w'_1, ())), (List.replicate (12 : Nat) (0 : Int), (List.replicate (12 : Nat) (0 : Int), (0, ()))))).bind fun ⟨⟨y0_0, ⟨y0_1, ()⟩⟩, ⟨y0_2, ⟨y0_3, ()⟩⟩⟩ => (bif decide (y0_0 < 0) then ((l41_2 (y0_2, (y0_3, (8, ())))).bind fun ⟨y2_0, ⟨y2_1, ()⟩⟩ => (some (y2_1, ()))) else (some (y0_3, ()))))
def N41 : A41 → Option B41 := M41 (itrs R41_0) (itrs R41_2)
def C41 : Ctr τ := ⟨i41, o41, N41⟩
theorem g41 : GOK κ Try.prog (G41) := gok_nil
theorem le41_2 : ∀ x, Q41_2 x = run Try.prog κ (G41) (tabL []) 2 (loopAt Try.f41 1) (li41_2.build x) (rnd li41_2 lo41_2) := fun x => by kernel_rfl
theorem le41_0 : ∀ x, Q41_0 x = run Try.prog κ (G41) (tabL []) 0 (loopAt Try.f41 0) (li41_0.build x) (rnd li41_0 lo41_0) := fun x => by kernel_rfl
theorem linner41_2 : ∀ Z : Zn, Z.rl = [] → 40 ≤ Z.nt → ∀ p ∈ loops 2 (loopAt Try.f41 1), ∀ C, (tabL []) p.1 = some C → LoopOK κ Try.prog Z p.2 C := fun Z h n => fun p hp => (by cases (show p ∈ ([] : List (Nat × Code)) from hp))
theorem lk41_2 : ∀ Z : Zn, Z.rl = [] → 40 ≤ Z.nt → LoopOK κ Try.prog Z (loopAt Try.f41 1) L41_2 := fun Z h n => loop_ok (S := (tabL [])) R41_2 (by kernel_rfl) g41 (by rw [h]; exact dsts_mono n _ (by kernel_rfl)) (linner41_2 Z h n) (by kernel_rfl) (by kernel_rfl) (le41_2) itrs_rounds
theorem linner41_0 : ∀ Z : Zn, Z.rl = [] → 40 ≤ Z.nt → ∀ p ∈ loops 0 (loopAt Try.f41 0), ∀ C, (tabL []) p.1 = some C → LoopOK κ Try.prog Z p.2 C := fun Z h n => fun p hp => (by cases (show p ∈ ([] : List (Nat × Code)) from hp))
theorem lk41_0 : ∀ Z : Zn, Z.rl = [] → 40 ≤ Z.nt → LoopOK κ Try.prog Z (loopAt Try.f41 0) L41_0 := fun Z h n => loop_ok (S := (tabL [])) R41_0 (by kernel_rfl) g41 (by rw [h]; exact dsts_mono n _ (by kernel_rfl)) (linner41_0 Z h n) (by kernel_rfl) (by kernel_rfl) (le41_0) itrs_rounds
theorem lall41 : ∀ Z : Zn, Z.rl = C41.o.keeps → Try.f41.ntmps ≤ Z.nt → ∀ p ∈ loops 0 (bodyOf Try.f41), ∀ C, (tabL [(0, L41_0), (2, L41_2)]) p.1 = some C → LoopOK κ Try.prog Z p.2 C := fun Z h n => all_loops [(0, loopAt Try.f41 0), (2, loopAt Try.f41 1)] (by kernel_rfl) (all_cons (fun C hC => (Option.some.inj hC : L41_0 = C) ▸ lk41_0 Z h n) (all_cons (fun C hC => (Option.some.inj hC : L41_2 = C) ▸ lk41_2 Z h n) (fun _ h => by cases h)))
theorem e41 : ∀ (l41_0 : LA41_0 → Option LB41_0) (l41_2 : LA41_2 → Option LB41_2) x, M41 l41_0 l41_2 x = fnE Try.prog κ (G41) (tabL [(0, (⟨li41_0, l41_0, lo41_0⟩ : Lc τ)), (2, (⟨li41_2, l41_2, lo41_2⟩ : Lc τ))]) Try.f41 i41 o41 x := fun l41_0 l41_2 x => by kernel_rfl
theorem s41 : Sound κ Try.prog C41 41 := fn_sound (S := (tabL [(0, L41_0), (2, L41_2)])) (F := Try.f41) (code := bodyOf Try.f41) (by kernel_rfl) g41 Try.func41 (by kernel_rfl) (by kernel_rfl) (by kernel_rfl) lall41 (by kernel_rfl) (by kernel_rfl) fun x y h => (e41 (itrs R41_0) (itrs R41_2) x).symm.trans h
end Go.Proofs.Ytnlajjeppdchiaa.E
namespace Go.Proofs.Ytnlajjeppdchiaa.E
open Go
set_option linter.unusedVariables false
set_option maxRecDepth 100000
abbrev A40 : Type := (List Int × List Int × Unit)
abbrev B40 : Type := (List Int × Unit)
def i40 : Fr τ A40 := (.arr 0 12 .u64 (.arr 1 12 .u64 .nil))
def o40 : Fr τ B40 := (.arr 1000 12 .u64 .nil)
def G40 : Nat → Option (Ctr τ) := tabG []
abbrev LA40_0 : Type := (List Int × List Int × List Int × Int × Int × Unit)
abbrev LB40_0 : Type := (List Int × List Int × Unit)
def li40_0 : Fr τ LA40_0 := (.aptr 2 12 .u64 (.aptr 3 12 .u64 (.aptr 4 12 .u64 (.val 5 (.int .u64) (.val 6 (.int .i64) .nil)))))
def lo40_0 : Ot τ LB40_0 := .one (.exit 0) (.aptr 2 12 .u64 (.aptr 4 12 .u64 .nil))
def Q40_0 : LA40_0 → Option (LA40_0 ⊕ LB40_0) := fun ⟨a', ⟨b', ⟨t4', ⟨c', ⟨i', ()⟩⟩⟩⟩⟩ => (bif decide (i' < 12) then ((bif decide (0 ≤ i') && decide (i' < 12) then some () else none).bind fun () => ((a'[Int.toNat i']?).bind fun y2 => ((bif decide (0 ≤ i') && decide (i' < 12) then some () else none).bind fun () => ((b'[Int.toNat i']?).bind fun y4 => ((bif decide (0 ≤ i') && decide (i' < 12) then some () else none).bind fun () => ((bif Nat.blt (Int.toNat i') 12 then some () else none).bind fun () => (let v0 : Int := c' + y2; let v1 : Int := IntKind.wrap IntKind.u64 v0; let v2 : Int := v1 + y4; let v3 : Int := IntKind.wrap IntKind.u64 v2; let v4 : Int := Int.tmod v3 65536; let v5 : Int := Int.tdiv v3 65536; let v6 : Int := IntKind.wrap IntKind.u64 v5; let v7 : Int := i' + 1; let v8 : Int := IntKind.wrap IntKind.i64 v7; some (.inl (List.set a' (Int.toNat i') v4, (b', (t4', (v6, (v8, ()))))))))))))) else (some (.inr (a', (t4', ())))))
def R40_0 : LA40_0 → Option (LA40_0 ⊕ LB40_0) := Q40_0
def L40_0 : Lc τ := ⟨li40_0, itrs R40_0, lo40_0⟩
def M40 (l40_0 : LA40_0 → Option LB40_0) : A40 → Option B40 := fun ⟨a', ⟨b', ()⟩⟩ => ((l40_0 (a', (b', (List.replicate (12 : Nat) (0 : Int), (0, (0, ())))))).bind fun ⟨y0_0, ⟨y0_1, ()⟩⟩ => (some (y0_0, ())))
def N40 : A40 → Option B40 := M40 (itrs R40_0)
def C40 : Ctr τ := ⟨i40, o40, N40⟩
theorem g40 : GOK κ Try.prog (G40) := gok_nil
theorem le40_0 : ∀ x, Q40_0 x = run Try.prog κ (G40) (tabL []) 0 (loopAt Try.f40 0) (li40_0.build x) (rnd li40_0 lo40_0) := fun x => by kernel_rfl
theorem linner40_0 : ∀ Z : Zn, Z.rl = [] → 27 ≤ Z.nt → ∀ p ∈ loops 0 (loopAt Try.f40 0), ∀ C, (tabL []) p.1 = some C → LoopOK κ Try.prog Z p.2 C := fun Z h n => fun p hp => (by cases (show p ∈ ([] : List (Nat × Code)) from hp))
theorem lk40_0 : ∀ Z : Zn, Z.rl = [] → 27 ≤ Z.nt → LoopOK κ Try.prog Z (loopAt Try.f40 0) L40_0 := fun Z h n => loop_ok (S := (tabL [])) R40_0 (by kernel_rfl) g40 (by rw [h]; exact dsts_mono n _ (by kernel_rfl)) (linner40_0 Z h n) (by kernel_rfl) (by kernel_rfl) (le40_0) itrs_rounds
theorem lall40 : ∀ Z : Zn, Z.rl = C40.o.keeps → Try.f40.ntmps ≤ Z.nt → ∀ p ∈ loops 0 (bodyOf Try.f40), ∀ C, (tabL [(0, L40_0)]) p.1 = some C → LoopOK κ Try.prog Z p.2 C := fun Z h n => all_loops [(0, loopAt Try.f40 0)] (by kernel_rfl) (all_cons (fun C hC => (Option.some.inj hC : L40_0 = C) ▸ lk40_0 Z h n) (fun _ h => by cases h))
theorem e40 : ∀ (l40_0 : LA40_0 → Option LB40_0) x, M40 l40_0 x = fnE Try.prog κ (G40) (tabL [(0, (⟨li40_0, l40_0, lo40_0⟩ : Lc τ))]) Try.f40 i40 o40 x := fun l40_0 x => by kernel_rfl
theorem s40 : Sound κ Try.prog C40 40 := fn_sound (S := (tabL [(0, L40_0)])) (F := Try.f40) (code := bodyOf Try.f40) (by kernel_rfl) g40 Try.func40 (by kernel_rfl) (by kernel_rfl) (by kernel_rfl) lall40 (by kernel_rfl) (by kernel_rfl) fun x y h => (e40 (itrs R40_0) x).symm.trans h
end Go.Proofs.Ytnlajjeppdchiaa.E
namespace Go.Proofs.Ytnlajjeppdchiaa.E
open Go
set_option linter.unusedVariables false
set_option maxRecDepth 100000
abbrev A47 : Type := (List Int × Unit)
abbrev B47 : Type := ((Int × Int) × Bool × Unit)
def i47 : Fr τ A47 := (.arr 0 12 .u64 .nil)
def o47 : Fr τ B47 := (.val 1000 (.pair (.int .i64) (.int .u64)) (.val 1001 .bool .nil))
def G47 : Nat → Option (Ctr τ) := tabG []
abbrev LA47_2 : Type := (List Int × (Int × (Int × Unit)) × Int × Int × Int × Unit)
abbrev LB47_2 : Type := ((Int × (Int × Unit)) × Int × Int × Unit)
def li47_2 : Fr τ LA47_2 := (.aptr 1 12 .u64 (.ptr 2 none 39 (.val (.int .i64) (.val (.int .u64) .nil)) (.val 6 (.int .u64) (.val 7 (.int .u64) (.val 8 (.int .i64) .nil)))))
def lo47_2 : Ot τ LB47_2 := .one (.exit 2) (.ptr 2 none 39 (.val (.int .i64) (.val (.int .u64) .nil)) (.val 6 (.int .u64) (.val 7 (.int .u64) .nil)))
def Q47_2 : LA47_2 → Option (LA47_2 ⊕ LB47_2) := fun ⟨l', ⟨⟨t2'_0, ⟨t2'_1, ()⟩⟩, ⟨lo', ⟨hi', ⟨i', ()⟩⟩⟩⟩⟩ => (bif decide (i' ≥ 0) then ((bif decide (0 ≤ i') && decide (i' < 12) then some () else none).bind fun () => ((l'[Int.toNat i']?).bind fun y2 => (let v0 : Int := i' + 4; let v1 : Int := IntKind.wrap IntKind.i64 v0; (bif decide (0 ≤ v1) && decide (v1 < 12) then some () else none).bind fun () => ((l'[Int.toNat v1]?).bind fun y4 => (let v2 : Int := lo' * 65536; let v3 : Int := IntKind.wrap IntKind.u64 v2; let v4 : Int := v3 + y2; let v5 : Int := IntKind.wrap IntKind.u64 v4; let v6 : Int := hi' * 65536; let v7 : Int := IntKind.wrap IntKind.u64 v6; let v8 : Int := v7 + y4; let v9 : Int := IntKind.wrap IntKind.u64 v8; let v10 : Int := i' - 1; let v11 : Int := IntKind.wrap IntKind.i64 v10; some (.inl (l', ((t2'_0, (t2'_1, ())), (v5, (v9, (v11, ()))))))))))) else (some (.inr ((t2'_0, (t2'_1, ())), (lo', (hi', ()))))))
def R47_2 : LA47_2 → Option (LA47_2 ⊕ LB47_2) := Q47_2
def L47_2 : Lc τ := ⟨li47_2, itrs R47_2, lo47_2⟩
abbrev LA47_0 : Type := (List Int × (Int × (Int × Unit)) × Int × Int × Unit)
abbrev LB47_0 : Type := (List Int × (Int × (Int × Unit)) × Unit) ⊕ ((Int × (Int × Unit)) × Bool × Unit)
def li47_0 : Fr τ LA47_0 := (.aptr 1 12 .u64 (.ptr 2 none 39 (.val (.int .i64) (.val (.int .u64) .nil)) (.val 4 (.int .u64) (.val 5 (.int .i64) .nil))))
def lo47_0 : Ot τ LB47_0 := .alt (.exit 0) (.aptr 1 12 .u64 (.ptr 2 none 39 (.val (.int .i64) (.val (.int .u64) .nil)) .nil)) (.one .ret (.ptr 2 none 39 (.val (.int .i64) (.val (.int .u64) .nil)) (.val 3 .bool .nil)))
def Q47_0 : LA47_0 → Option (LA47_0 ⊕ LB47_0) := fun ⟨l', ⟨⟨t2'_0, ⟨t2'_1, ()⟩⟩, ⟨top', ⟨i', ()⟩⟩⟩⟩ => (bif decide (i' < 12) then ((bif decide (0 ≤ i') && decide (i' < 12) then some () else none).bind fun () => ((l'[Int.toNat i']?).bind fun y2 => (bif y2 != top' then (some (.inr (.inr ((0, (0, ())), (false, ()))))) else (let v0 : Int := i' + 1; let v1 : Int := IntKind.wrap IntKind.i64 v0; some (.inl (l', ((t2'_0, (t2'_1, ())), (top', (v1, ()))))))))) else (some (.inr (.inl (l', ((t2'_0, (t2'_1, ())), ()))))))
def R47_0 : LA47_0 → Option (LA47_0 ⊕ LB47_0) := Q47_0
def L47_0 : Lc τ := ⟨li47_0, itrs R47_0, lo47_0⟩
def M47 (l47_0 : LA47_0 → Option LB47_0) (l47_2 : LA47_2 → Option LB47_2) : A47 → Option B47 := fun ⟨l', ()⟩ => ((l'[7]?).bind fun y0 => (bif decide (y0 ≥ 32768) then ((l47_0 (l', ((0, (0, ())), (65535, (8, ()))))).bind fun y2 => (match y2 with | .inl ⟨y3_0, ⟨⟨y3_1, ⟨y3_2, ()⟩⟩, ()⟩⟩ => ((l47_2 (y3_0, ((y3_1, (y3_2, ())), (0, (0, (3, ())))))).bind fun ⟨⟨y4_0, ⟨y4_1, ()⟩⟩, ⟨y4_2, ⟨y4_3, ()⟩⟩⟩ => (let v0 : Int := IntKind.wrap IntKind.i64 y4_3; some ((v0, y4_2), (true, ())))) | .inr ⟨⟨y3_0, ⟨y3_1, ()⟩⟩, ⟨y3_2, ()⟩⟩ => (some ((y3_0, y3_1), (y3_2, ()))))) else ((l47_0 (l', ((0, (0, ())), (0, (8, ()))))).bind fun y2 => (match y2 with | .inl ⟨y3_0, ⟨⟨y3_1, ⟨y3_2, ()⟩⟩, ()⟩⟩ => ((l47_2 (y3_0, ((y3_1, (y3_2, ())), (0, (0, (3, ())))))).bind fun ⟨⟨y4_0, ⟨y4_1, ()⟩⟩, ⟨y4_2, ⟨y4_3, ()⟩⟩⟩ => (let v0 : Int := IntKind.wrap IntKind.i64 y4_3; some ((v0, y4_2), (true, ())))) | .inr ⟨⟨y3_0, ⟨y3_1, ()⟩⟩, ⟨y3_2, ()⟩⟩ => (some ((y3_0, y3_1), (y3_2, ())))))))
def N47 : A47 → Option B47 := M47 (itrs R47_0) (itrs R47_2)
def C47 : Ctr τ := ⟨i47, o47, N47⟩
theorem g47 : GOK κ Try.prog (G47) := gok_nil
theorem le47_2 : ∀ x, Q47_2 x = run Try.prog κ (G47) (tabL []) 2 (loopAt Try.f47 1) (li47_2.build x) (rnd li47_2 lo47_2) := fun x => by kernel_rfl
theorem le47_0 : ∀ x, Q47_0 x = run Try.prog κ (G47) (tabL []) 0 (loopAt Try.f47 0) (li47_0.build x) (rnd li47_0 lo47_0) := fun x => by kernel_rfl
theorem linner47_2 : ∀ Z : Zn, Z.rl = [] → 43 ≤ Z.nt → ∀ p ∈ loops 2 (loopAt Try.f47 1), ∀ C, (tabL []) p.1 = some C → LoopOK κ Try.prog Z p.2 C := fun Z h n => fun p hp => (by cases (show p ∈ ([] : List (Nat × Code)) from hp))
theorem lk47_2 : ∀ Z : Zn, Z.rl = [] → 43 ≤ Z.nt → LoopOK κ Try.prog Z (loopAt Try.f47 1) L47_2 := fun Z h n => loop_ok (S := (tabL [])) R47_2 (by kernel_rfl) g47 (by rw [h]; exact dsts_mono n _ (by kernel_rfl)) (linner47_2 Z h n) (by kernel_rfl) (by kernel_rfl) (le47_2) itrs_rounds
theorem linner47_0 : ∀ Z : Zn, Z.rl = [] → 43 ≤ Z.nt → ∀ p ∈ loops 0 (loopAt Try.f47 0), ∀ C, (tabL []) p.1 = some C → LoopOK κ Try.prog Z p.2 C := fun Z h n => fun p hp => (by cases (show p ∈ ([] : List (Nat × Code)) from hp))
theorem lk47_0 : ∀ Z : Zn, Z.rl = [] → 43 ≤ Z.nt → LoopOK κ Try.prog Z (loopAt Try.f47 0) L47_0 := fun Z h n => loop_ok (S := (tabL [])) R47_0 (by kernel_rfl) g47 (by rw [h]; exact dsts_mono n _ (by kernel_rfl)) (linner47_0 Z h n) (by kernel_rfl) (by kernel_rfl) (le47_0) itrs_rounds
theorem lall47 : ∀ Z : Zn, Z.rl = C47.o.keeps → Try.f47.ntmps ≤ Z.nt → ∀ p ∈ loops 0 (bodyOf Try.f47), ∀ C, (tabL [(0, L47_0), (2, L47_2)]) p.1 = some C → LoopOK κ Try.prog Z p.2 C := fun Z h n => all_loops [(0, loopAt Try.f47 0), (2, loopAt Try.f47 1)] (by kernel_rfl) (all_cons (fun C hC => (Option.some.inj hC : L47_0 = C) ▸ lk47_0 Z h n) (all_cons (fun C hC => (Option.some.inj hC : L47_2 = C) ▸ lk47_2 Z h n) (fun _ h => by cases h)))
theorem e47 : ∀ (l47_0 : LA47_0 → Option LB47_0) (l47_2 : LA47_2 → Option LB47_2) x, M47 l47_0 l47_2 x = fnE Try.prog κ (G47) (tabL [(0, (⟨li47_0, l47_0, lo47_0⟩ : Lc τ)), (2, (⟨li47_2, l47_2, lo47_2⟩ : Lc τ))]) Try.f47 i47 o47 x := fun l47_0 l47_2 x => by kernel_rfl
theorem s47 : Sound κ Try.prog C47 47 := fn_sound (S := (tabL [(0, L47_0), (2, L47_2)])) (F := Try.f47) (code := bodyOf Try.f47) (by kernel_rfl) g47 Try.func47 (by kernel_rfl) (by kernel_rfl) (by kernel_rfl) lall47 (by kernel_rfl) (by kernel_rfl) fun x y h => (e47 (itrs R47_0) (itrs R47_2) x).symm.trans h
end Go.Proofs.Ytnlajjeppdchiaa.E
namespace Go.Proofs.Ytnlajjeppdchiaa.E
open Go
set_option linter.unusedVariables false
set_option maxRecDepth 100000
abbrev A42 : Type := (List Int × Unit)
abbrev B42 : Type := ((Int × Int) × Int × Unit)
def i42 : Fr τ A42 := (.arr 0 12 .u64 .nil)
def o42 : Fr τ B42 := (.val 1000 (.pair (.int .i64) (.int .u64)) (.val 1001 (.int .i64) .nil))
def G42 (c47 : A47 → Option B47) : Nat → Option (Ctr τ) := tabG [(47, (⟨i47, o47, c47⟩ : Ctr τ))]
def M42 (c47 : A47 → Option B47) : A42 → Option B42 := fun ⟨l', ()⟩ => ((c47 (l', ())).bind fun ⟨⟨y0_0, y0_1⟩, ⟨y0_2, ()⟩⟩ => (bif !y0_2 then (some ((0, 0), (10, ()))) else (some ((y0_0, y0_1), (0, ())))))
def N42 : A42 → Option B42 := M42 N47
def C42 : Ctr τ := ⟨i42, o42, N42⟩
theorem g42 : GOK κ Try.prog (G42 N47) := (gok_cons s47 gok_nil)
theorem lall42 : ∀ Z : Zn, Z.rl = C42.o.keeps → Try.f42.ntmps ≤ Z.nt → ∀ p ∈ loops 0 (bodyOf Try.f42), ∀ C, (tabL []) p.1 = some C → LoopOK κ Try.prog Z p.2 C := fun Z h n => fun p hp => (by cases (show p ∈ ([] : List (Nat × Code)) from hp))
theorem e42 : ∀ (c47 : A47 → Option B47) x, M42 c47 x = fnE Try.prog κ (G42 c47) (tabL []) Try.f42 i42 o42 x := fun c47 x => by kernel_rfl
theorem s42 : Sound κ Try.prog C42 42 := fn_sound (S := (tabL [])) (F := Try.f42) (code := bodyOf Try.f42) (by kernel_rfl) g42 Try.func42 (by kernel_rfl) (by kernel_rfl) (by kernel_rfl) lall42 (by kernel_rfl) (by kernel_rfl) fun x y h => (e42 N47 x).symm.trans h
end Go.Proofs.Ytnlajjeppdchiaa.E
namespace Go.Proofs.Ytnlajjeppdchiaa.E
open Go
set_option linter.unusedVariables false
set_option maxRecDepth 100000
abbrev A33 : Type := ((List T39) × Unit)
abbrev B33 : Type := ((Int × Int) × Int × Unit)
def i33 : Fr τ A33 := (.val 0 (.sl 39) .nil)
def o33 : Fr τ B33 := (.val 1000 (.pair (.int .i64) (.int .u64)) (.val 1001 (.int .i64) .nil))
def G33 (c41 : A41 → Option B41) (c40 : A40 → Option B40) (c42 : A42 → Option B42) : Nat → Option (Ctr τ) := tabG [(41, (⟨i41, o41, c41⟩ : Ctr τ)), (40, (⟨i40, o40, c40⟩ : Ctr τ)), (42, (⟨i42, o42, c42⟩ : Ctr τ))]
abbrev LA33_0 : Type := ((List T39) × (Int × (Int × Unit)) × List Int × Int × Unit)
abbrev LB33_0 : Type := ((Int × (Int × Unit)) × List Int × Unit)
def li33_0 : Fr τ LA33_0 := (.val 0 (.sl 39) (.ptr 2 none 39 (.val (.int .i64) (.val (.int .u64) .nil)) (.aptr 4 12 .u64 (.val 5 (.int .i64) .nil))))
def lo33_0 : Ot τ LB33_0 := .one (.exit 0) (.ptr 2 none 39 (.val (.int .i64) (.val (.int .u64) .nil)) (.aptr 4 12 .u64 .nil))
def Q33_0 (c41 : A41 → Option B41) (c40 : A40 → Option B40) (c42 : A42 → Option B42) : LA33_0 → Option (LA33_0 ⊕ LB33_0) := fun ⟨list', ⟨⟨t2'_0, ⟨t2'_1, ()⟩⟩, ⟨l', ⟨i', ()⟩⟩⟩⟩ => (let v0 : Int := ↑(List.length list'); bif decide (i' < v0) then ((bif decide (0 ≤ i') then list'[Int.toNat i']? else none).bind fun ⟨y1_0, y1_1⟩ => ((c41 ((y1_0, y1_1), ())).bind fun ⟨y2, ()⟩ => ((c40 (l', (y2, ()))).bind fun ⟨y3, ()⟩ => (let v1 : Int := i' + 1; let v2 : Int := IntKind.wrap IntKind.i64 v1; some (.inl (list', ((t2'_0, (t2'_1, ())), (y3, (v2, ()))))))))) else (some (.inr ((t2'_0, (t2'_1, ())), (l', ())))))
def R33_0 : LA33_0 → Option (LA33_0 ⊕ LB33_0) := Q33_0 N41 N40 N42
def L33_0 : Lc τ := ⟨li33_0, itrs R33_0, lo33_0⟩
def M33 (c41 : A41 → Option B41) (c40 : A40 → Option B40) (c42 : A42 → Option B42) (l33_0 : LA33_0 → Option LB33_0) : A33 → Option B33 := fun ⟨list', ()⟩ => ((l33_0 (list', ((0, (0, ())), (List.replicate (12 : Nat) (0 : Int), (0, ()))))).bind fun ⟨⟨y0_0, ⟨y0_1, ()⟩⟩, ⟨y0_2, ()⟩⟩ => ((c42 (y0_2, ())).bind fun ⟨⟨y1_0, y1_1⟩, ⟨y1_2, ()⟩⟩ => (some ((y1_0, y1_1), (y1_2, ())))))
def N33 : A33 → Option B33 := M33 N41 N40 N42 (itrs R33_0)
def C33 : Ctr τ := ⟨i33, o33, N33⟩
theorem g33 : GOK κ Try.prog (G33 N41 N40 N42) := (gok_cons s41 (gok_cons s40 (gok_cons s42 gok_nil)))
theorem le33_0 : ∀ (c41 : A41 → Option B41) (c40 : A40 → Option B40) (c42 : A42 → Option B42) x, Q33_0 c41 c40 c42 x = run Try.prog κ (G33 c41 c40 c42) (tabL []) 0 (loopAt Try.f33 0) (li33_0.build x) (rnd li33_0 lo33_0) := fun c41 c40 c42 x => by kernel_rfl
theorem linner33_0 : ∀ Z : Zn, Z.rl = [] → 23 ≤ Z.nt → ∀ p ∈ loops 0 (loopAt Try.f33 0), ∀ C, (tabL []) p.1 = some C → LoopOK κ Try.prog Z p.2 C := fun Z h n => fun p hp => (by cases (show p ∈ ([] : List (Nat × Code)) from hp))
theorem lk33_0 : ∀ Z : Zn, Z.rl = [] → 23 ≤ Z.nt → LoopOK κ Try.prog Z (loopAt Try.f33 0) L33_0 := fun Z h n => loop_ok (S := (tabL [])) R33_0 (by kernel_rfl) g33 (by rw [h]; exact dsts_mono n _ (by kernel_rfl)) (linner33_0 Z h n) (by kernel_rfl) (by kernel_rfl) (le33_0 N41 N40 N42) itrs_rounds
theorem lall33 : ∀ Z : Zn, Z.rl = C33.o.keeps → Try.f33.ntmps ≤ Z.nt → ∀ p ∈ loops 0 (bodyOf Try.f33), ∀ C, (tabL [(0, L33_0)]) p.1 = some C → LoopOK κ Try.prog Z p.2 C := fun Z h n => all_loops [(0, loopAt Try.f33 0)] (by kernel_rfl) (all_cons (fun C hC => (Option.some.inj hC : L33_0 = C) ▸ lk33_0 Z h n) (fun _ h => by cases h))
theorem e33 : ∀ (c41 : A41 → Option B41) (c40 : A40 → Option B40) (c42 : A42 → Option B42) (l33_0 : LA33_0 → Option LB33_0) x, M33 c41 c40 c42 l33_0 x = fnE Try.prog κ (G33 c41 c40 c42) (tabL [(0, (⟨li33_0, l33_0, lo33_0⟩ : Lc τ))]) Try.f33 i33 o33 x := fun c41 c40 c42 l33_0 x => by kernel_rfl
theorem s33 : Sound κ Try.prog C33 33 := fn_sound (S := (tabL [(0, L33_0)])) (F := Try.f33) (code := bodyOf Try.f33) (by kernel_rfl) g33 Try.func33 (by kernel_rfl) (by kernel_rfl) (by kernel_rfl) lall33 (by kernel_rfl) (by kernel_rfl) fun x y h => (e33 N41 N40 N42 (itrs R33_0) x).symm.trans h
end Go.Proofs.Ytnlajjeppdchiaa.E
namespace Go.Proofs.Ytnlajjeppdchiaa.E
open Go
set_option linter.unusedVariables false
set_option maxRecDepth 100000
abbrev A23 : Type := ((List T27) × Int × Unit)
abbrev B23 : Type := (((Int × Int) × ((Int × Int) × (Int × Int))) × Bool × Unit)
def i23 : Fr τ A23 := (.val 0 (.sl 27) (.val 1 (.int .i64) .nil))
def o23 : Fr τ B23 := (.val 1000 (.pair (.pair (.int .i64) (.int .u64)) (.pair (.pair (.int .i64) (.int .u64)) (.pair (.int .i64) (.int .u64)))) (.val 1001 .bool .nil))
def G23 (c32 : A32 → Option B32) (c33 : A33 → Option B33) : Nat → Option (Ctr τ) := tabG [(32, (⟨i32, o32, c32⟩ : Ctr τ)), (33, (⟨i33, o33, c33⟩ : Ctr τ))]
abbrev LA23_0 : Type := ((List T27) × Int × ((Int × Int) × ((Int × Int) × ((Int × Int) × Unit))) × (List T39) × (List T39) × (List T39) × Int × Unit)
abbrev LB23_0 : Type := (((Int × Int) × ((Int × Int) × ((Int × Int) × Unit))) × (List T39) × (List T39) × (List T39) × Unit)
def li23_0 : Fr τ LA23_0 := (.val 0 (.sl 27) (.val 1 (.int .i64) (.ptr 4 none 41 (.val (.pair (.int .i64) (.int .u64)) (.val (.pair (.int .i64) (.int .u64)) (.val (.pair (.int .i64) (.int .u64)) .nil))) (.own 6 39 (.own 7 39 (.own 8 39 (.val 9 (.int .i64) .nil)))))))
def lo23_0 : Ot τ LB23_0 := .one (.exit 0) (.ptr 4 none 41 (.val (.pair (.int .i64) (.int .u64)) (.val (.pair (.int .i64) (.int .u64)) (.val (.pair (.int .i64) (.int .u64)) .nil))) (.own 6 39 (.own 7 39 (.own 8 39 .nil))))
def Q23_0 (c32 : A32 → Option B32) (c33 : A33 → Option B33) : LA23_0 → Option (LA23_0 ⊕ LB23_0) := fun ⟨tables', ⟨q', ⟨⟨⟨t4'_0, t4'_1⟩, ⟨⟨t4'_2, t4'_3⟩, ⟨⟨t4'_4, t4'_5⟩, ()⟩⟩⟩, ⟨a', ⟨b', ⟨c', ⟨i', ()⟩⟩⟩⟩⟩⟩⟩ => (let v0 : Int := ↑(List.length tables'); bif decide (i' < v0) then ((bif decide (0 ≤ i') then tables'[Int.toNat i']? else none).bind fun ⟨y1_0, ⟨y1_1, y1_2⟩⟩ => ((bif decide (0 ≤ i') then tables'[Int.toNat i']? else none).bind fun ⟨y2_0, ⟨y2_1, y2_2⟩⟩ => ((c32 (y2_2, (q', ()))).bind fun ⟨y3, ()⟩ => ((bif decide (0 ≤ y3) then y1_2[Int.toNat y3]? else none).bind fun ⟨y4_0, ⟨⟨y4_1, y4_2⟩, ⟨⟨y4_3, y4_4⟩, ⟨y4_5, y4_6⟩⟩⟩⟩ => ((bif decide ((List.length a' + 1) * 16 ≤ 210000000000000) then some () else none).bind fun () => ((bif decide ((List.length b' + 1) * 16 ≤ 210000000000000) then some () else none).bind fun () => ((bif decide ((List.length c' + 1) * 16 ≤ 210000000000000) then some () else none).bind fun () => (let v1 : Int := i' + 1; let v2 : Int := IntKind.wrap IntKind.i64 v1; some (.inl (tables', (q', (((t4'_0, t4'_1), ((t4'_2, t4'_3), ((t4'_4, t4'_5), ()))), (a' ++ [(y4_1, y4_2)], (b' ++ [(y4_3, y4_4)], (c' ++ [(y4_5, y4_6)], (v2, ())))))))))))))))) else (some (.inr (((t4'_0, t4'_1), ((t4'_2, t4'_3), ((t4'_4, t4'_5), ()))), (a', (b', (c', ())))))))
def R23_0 : LA23_0 → Option (LA23_0 ⊕ LB23_0) := Q23_0 N32 N33
def L23_0 : Lc τ := ⟨li23_0, itrs R23_0, lo23_0⟩
def M23 (c32 : A32 → Option B32) (c33 : A33 → Option B33) (l23_0 : LA23_0 → Option LB23_0) : A23 → Option B23 := fun ⟨tables', ⟨q', ()⟩⟩ => ((l23_0 (tables', (q', (((0, 0), ((0, 0), ((0, 0), ()))), ([], ([], ([], (0, ())))))))).bind fun ⟨⟨⟨y0_0, y0_1⟩, ⟨⟨y0_2, y0_3⟩, ⟨⟨y0_4, y0_5⟩, ()⟩⟩⟩, ⟨y0_6, ⟨y0_7, ⟨y0_8, ()⟩⟩⟩⟩ => ((c33 (y0_6, ())).bind fun ⟨⟨y1_0, y1_1⟩, ⟨y1_2, ()⟩⟩ => ((c33 (y0_7, ())).bind fun ⟨⟨y2_0, y2_1⟩, ⟨y2_2, ()⟩⟩ => ((c33 (y0_8, ())).bind fun ⟨⟨y3_0, y3_1⟩, ⟨y3_2, ()⟩⟩ => (bif y1_2 == 0 then (bif y2_2 == 0 then (some (((y1_0, y1_1), ((y2_0, y2_1), (y3_0, y3_1))), (y3_2 == 0, ()))) else (some (((y1_0, y1_1), ((y2_0, y2_1), (y3_0, y3_1))), (false, ())))) else (some (((y1_0, y1_1), ((y2_0, y2_1), (y3_0, y3_1))), (false, ()))))))))
def N23 : A23 → Option B23 := M23 N32 N33 (itrs R23_0)
def C23 : Ctr τ := ⟨i23, o23, N23⟩
theorem g23 : GOK κ Try.prog (G23 N32 N33) := (gok_cons s32 (gok_cons s33 gok_nil))
theorem le23_0 : ∀ (c32 : A32 → Option B32) (c33 : A33 → Option B33) x, Q23_0 c32 c33 x = run Try.prog κ (G23 c32 c33) (tabL []) 0 (loopAt Try.f23 0) (li23_0.build x) (rnd li23_0 lo23_0) := fun c32 c33 x => by kernel_rfl
theorem linner23_0 : ∀ Z : Zn, Z.rl = [] → 82 ≤ Z.nt → ∀ p ∈ loops 0 (loopAt Try.f23 0), ∀ C, (tabL []) p.1 = some C → LoopOK κ Try.prog Z p.2 C := fun Z h n => fun p hp => (by cases (show p ∈ ([] : List (Nat × Code)) from hp))
theorem lk23_0 : ∀ Z : Zn, Z.rl = [] → 82 ≤ Z.nt → LoopOK κ Try.prog Z (loopAt Try.f23 0) L23_0 := fun Z h n => loop_ok (S := (tabL [])) R23_0 (by kernel_rfl) g23 (by rw [h]; exact dsts_mono n _ (by kernel_rfl)) (linner23_0 Z h n) (by kernel_rfl) (by kernel_rfl) (le23_0 N32 N33) itrs_rounds
theorem lall23 : ∀ Z : Zn, Z.rl = C23.o.keeps → Try.f23.ntmps ≤ Z.nt → ∀ p ∈ loops 0 (bodyOf Try.f23), ∀ C, (tabL [(0, L23_0)]) p.1 = some C → LoopOK κ Try.prog Z p.2 C := fun Z h n => all_loops [(0, loopAt Try.f23 0)] (by kernel_rfl) (all_cons (fun C hC => (Option.some.inj hC : L23_0 = C) ▸ lk23_0 Z h n) (fun _ h => by cases h))
theorem e23 : ∀ (c32 : A32 → Option B32) (c33 : A33 → Option B33) (l23_0 : LA23_0 → Option LB23_0) x, M23 c32 c33 l23_0 x = fnE Try.prog κ (G23 c32 c33) (tabL [(0, (⟨li23_0, l23_0, lo23_0⟩ : Lc τ))]) Try.f23 i23 o23 x := fun c32 c33 l23_0 x => by kernel_rfl
theorem s23 : Sound κ Try.prog C23 23 := fn_sound (S := (tabL [(0, L23_0)])) (F := Try.f23) (code := bodyOf Try.f23) (by kernel_rfl) g23 Try.func23 (by kernel_rfl) (by kernel_rfl) (by kernel_rfl) lall23 (by kernel_rfl) (by kernel_rfl) fun x y h => (e23 N32 N33 (itrs R23_0) x).symm.trans h
end Go.Proofs.Ytnlajjeppdchiaa.E
namespace Go.Proofs.Ytnlajjeppdchiaa.E
open Go
set_option linter.unusedVariables false
set_option maxRecDepth 100000
abbrev A10 : Type := ((List T27) × Unit)
abbrev B10 : Type := ((Int × (Int × (List T43))) × Int × Unit)
def i10 : Fr τ A10 := (.val 0 (.sl 27) .nil)
def o10 : Fr τ B10 := (.val 1000 (.pair (.int .i64) (.pair (.int .i64) (.sl 43))) (.val 1001 (.int .i64) .nil))
def G10 (c22 : A22 → Option B22) (c13 : A13 → Option B13) (c23 : A23 → Option B23) : Nat → Option (Ctr τ) := tabG [(22, (⟨i22, o22, c22⟩ : Ctr τ)), (13, (⟨i13, o13, c13⟩ : Ctr τ)), (23, (⟨i23, o23, c23⟩ : Ctr τ))]
abbrev LA10_2 : Type := ((List T27) × (Int × (Int × ((List T43) × Unit))) × (Int × (Int × (List T43 × Unit))) × (List T2) × Int × Unit)
abbrev LB10_2 : Type := ((Int × (Int × ((List T43) × Unit))) × (Int × (Int × (List T43 × Unit))) × Unit) ⊕ ((Int × (Int × ((List T43) × Unit))) × Int × Unit)
def li10_2 : Fr τ LA10_2 := (.val 0 (.sl 27) (.ptr 2 none 27 (.val (.int .i64) (.val (.int .i64) (.val (.sl 43) .nil))) (.ptr 5 none 27 (.val (.int .i64) (.val (.int .i64) (.own 43 .nil))) (.own 6 2 (.val 7 (.int .i64) .nil)))))
def lo10_2 : Ot τ LB10_2 := .alt (.exit 2) (.ptr 2 none 27 (.val (.int .i64) (.val (.int .i64) (.val (.sl 43) .nil))) (.ptr 5 none 27 (.val (.int .i64) (.val (.int .i64) (.own 43 .nil))) .nil)) (.one .ret (.ptr 2 none 27 (.val (.int .i64) (.val (.int .i64) (.val (.sl 43) .nil))) (.val 3 (.int .i64) .nil)))
def Q10_2 (c22 : A22 → Option B22) (c13 : A13 → Option B13) (c23 : A23 → Option B23) : LA10_2 → Option (LA10_2 ⊕ LB10_2) := fun ⟨tables', ⟨⟨t2'_0, ⟨t2'_1, ⟨t2'_2, ()⟩⟩⟩, ⟨⟨t'_0, ⟨t'_1, ⟨t'_2, ()⟩⟩⟩, ⟨cuts', ⟨i', ()⟩⟩⟩⟩⟩ => (let v0 : Int := ↑(List.length cuts'); bif decide (i' < v0) then ((bif decide (0 ≤ i') && decide (i' < v0) then some () else none).bind fun () => ((cuts'[Int.toNat i']?).bind fun y2 => ((c23 (tables', (y2, ()))).bind fun ⟨⟨⟨y3_0, y3_1⟩, ⟨⟨y3_2, y3_3⟩, ⟨y3_4, y3_5⟩⟩⟩, ⟨y3_6, ()⟩⟩ => (bif !y3_6 then (some (.inr (.inr ((0, (0, ([], ()))), (10, ()))))) else (bif decide (i' > 0) then (let v1 : Int := ↑(List.length t'_2); let v2 : Int := v1 - 1; let v3 : Int := IntKind.wrap IntKind.i64 v2; (bif decide (0 ≤ v3) && decide (v3 < v1) then some () else none).bind fun () => ((t'_2[Int.toNat v3]?).bind fun ⟨y7_0, ⟨⟨y7_1, y7_2⟩, ⟨⟨y7_3, y7_4⟩, ⟨y7_5, y7_6⟩⟩⟩⟩ => (bif y7_1 == y3_0 && y7_2 == y3_1 && (y7_3 == y3_2 && y7_4 == y3_3 && (y7_5 == y3_4 && y7_6 == y3_5)) then (let v4 : Int := i' + 1; let v5 : Int := IntKind.wrap IntKind.i64 v4; some (.inl (tables', ((t2'_0, (t2'_1, (t2'_2, ()))), ((t'_0, (t'_1, (t'_2, ()))), (cuts', (v5, ()))))))) else (bif v1 == 256 then (some (.inr (.inr ((0, (0, ([], ()))), (120, ()))))) else ((bif decide (0 ≤ i') && decide (i' < v0) then some () else none).bind fun () => ((cuts'[Int.toNat i']?).bind fun y11 => ((bif decide ((List.length t'_2 + 1) * 56 ≤ 210000000000000) then some () else none).bind fun () => (let v4 : Int := i' + 1; let v5 : Int := IntKind.wrap IntKind.i64 v4; some (.inl (tables', ((t2'_0, (t2'_1, (t2'_2, ()))), ((t'_0, (t'_1, (t'_2 ++ [(y11, (y3_0, y3_1), (y3_2, y3_3), y3_4, y3_5)], ()))), (cuts', (v5, ())))))))))))))) else (let v1 : Int := ↑(List.length t'_2); bif v1 == 256 then (some (.inr (.inr ((0, (0, ([], ()))), (120, ()))))) else ((bif decide (0 ≤ i') && decide (i' < v0) then some () else none).bind fun () => ((cuts'[Int.toNat i']?).bind fun y8 => ((bif decide ((List.length t'_2 + 1) * 56 ≤ 210000000000000) then some () else none).bind fun () => (let v2 : Int := i' + 1; let v3 : Int := IntKind.wrap IntKind.i64 v2; some (.inl (tables', ((t2'_0, (t2'_1, (t2'_2, ()))), ((t'_0, (t'_1, (t'_2 ++ [(y8, (y3_0, y3_1), (y3_2, y3_3), y3_4, y3_5)], ()))), (cuts', (v3, ())))))))))))))))) else (some (.inr (.inl ((t2'_0, (t2'_1, (t2'_2, ()))), ((t'_0, (t'_1, (t'_2, ()))), ()))))))
def R10_2 : LA10_2 → Option (LA10_2 ⊕ LB10_2) := Q10_2 N22 N13 N23
def L10_2 : Lc τ := ⟨li10_2, itrs R10_2, lo10_2⟩
abbrev LA10_0 : Type := ((List T27) × (Int × (Int × ((List T43) × Unit))) × Int × Unit)
abbrev LB10_0 : Type := ((List T27) × (Int × (Int × ((List T43) × Unit))) × Unit) ⊕ ((Int × (Int × ((List T43) × Unit))) × Int × Unit)
def li10_0 : Fr τ LA10_0 := (.val 0 (.sl 27) (.ptr 2 none 27 (.val (.int .i64) (.val (.int .i64) (.val (.sl 43) .nil))) (.val 4 (.int .i64) .nil)))
def lo10_0 : Ot τ LB10_0 := .alt (.exit 0) (.val 0 (.sl 27) (.ptr 2 none 27 (.val (.int .i64) (.val (.int .i64) (.val (.sl 43) .nil))) .nil)) (.one .ret (.ptr 2 none 27 (.val (.int .i64) (.val (.int .i64) (.val (.sl 43) .nil))) (.val 3 (.int .i64) .nil)))
def Q10_0 (c22 : A22 → Option B22) (c13 : A13 → Option B13) (c23 : A23 → Option B23) : LA10_0 → Option (LA10_0 ⊕ LB10_0) := fun ⟨tables', ⟨⟨t2'_0, ⟨t2'_1, ⟨t2'_2, ()⟩⟩⟩, ⟨i', ()⟩⟩⟩ => (let v0 : Int := ↑(List.length tables'); bif decide (i' < v0) then ((bif decide (0 ≤ i') then tables'[Int.toNat i']? else none).bind fun ⟨y1_0, ⟨y1_1, y1_2⟩⟩ => ((c22 ((y1_0, (y1_1, y1_2)), ())).bind fun ⟨y2, ()⟩ => (bif !y2 then (some (.inr (.inr ((0, (0, ([], ()))), (1, ()))))) else ((bif decide (0 ≤ i') then tables'[Int.toNat i']? else none).bind fun ⟨y4_0, ⟨y4_1, y4_2⟩⟩ => ((tables'[0]?).bind fun ⟨y5_0, ⟨y5_1, y5_2⟩⟩ => (bif y4_0 != y5_0 then (some (.inr (.inr ((0, (0, ([], ()))), (1, ()))))) else ((bif decide (0 ≤ i') then tables'[Int.toNat i']? else none).bind fun ⟨y7_0, ⟨y7_1, y7_2⟩⟩ => ((tables'[0]?).bind fun ⟨y8_0, ⟨y8_1, y8_2⟩⟩ => (bif y7_1 != y8_1 then (some (.inr (.inr ((0, (0, ([], ()))), (1, ()))))) else (let v1 : Int := i' + 1; let v2 : Int := IntKind.wrap IntKind.i64 v1; some (.inl (tables', ((t2'_0, (t2'_1, (t2'_2, ()))), (v2, ())))))))))))))) else (some (.inr (.inl (tables', ((t2'_0, (t2'_1, (t2'_2, ()))), ()))))))
def R10_0 : LA10_0 → Option (LA10_0 ⊕ LB10_0) := Q10_0 N22 N13 N23
def L10_0 : Lc τ := ⟨li10_0, itrs R10_0, lo10_0⟩
def M10 (c22 : A22 → Option B22) (c13 : A13 → Option B13) (c23 : A23 → Option B23) (l10_0 : LA10_0 → Option LB10_0) (l10_2 : LA10_2 → Option LB10_2) : A10 → Option B10 := fun ⟨tables', ()⟩ => (let v0 : Int := ↑(List.length tables'); bif v0 == 0 then (some ((0, (0, [])), (1, ()))) else ((l10_0 (tables', ((0, (0, ([], ()))), (0, ())))).bind fun y1 => (match y1 with | .inl ⟨y2_0, ⟨⟨y2_1, ⟨y2_2, ⟨y2_3, ()⟩⟩⟩, ()⟩⟩ => ((y2_0[0]?).bind fun ⟨y3_0, ⟨y3_1, y3_2⟩⟩ => ((y2_0[0]?).bind fun ⟨y4_0, ⟨y4_1, y4_2⟩⟩ => ((c13 (y2_0, ())).bind fun ⟨y5, ()⟩ => ((l10_2 (y2_0, ((y2_1, (y2_2, (y2_3, ()))), ((y3_0, (y4_1, ([], ()))), (y5, (0, ())))))).bind fun y6 => (match y6 with | .inl ⟨⟨y7_0, ⟨y7_1, ⟨y7_2, ()⟩⟩⟩, ⟨⟨y7_3, ⟨y7_4, ⟨y7_5, ()⟩⟩⟩, ()⟩⟩ => (some ((y7_3, (y7_4, y7_5)), (0, ()))) | .inr ⟨⟨y7_0, ⟨y7_1, ⟨y7_2, ()⟩⟩⟩, ⟨y7_3, ()⟩⟩ => (some ((y7_0, (y7_1, y7_2)), (y7_3, ())))))))) | .inr ⟨⟨y2_0, ⟨y2_1, ⟨y2_2, ()⟩⟩⟩, ⟨y2_3, ()⟩⟩ => (some ((y2_0, (y2_1, y2_2)), (y2_3, ()))))))
def N10 : A10 → Option B10 := M10 N22 N13 N23 (itrs R10_0) (itrs R10_2)
def C10 : Ctr τ := ⟨i10, o10, N10⟩
theorem g10 : GOK κ Try.prog (G10 N22 N13 N23) := (gok_cons s22 (gok_cons s13 (gok_cons s23 gok_nil)))
theorem le10_2 : ∀ (c22 : A22 → Option B22) (c13 : A13 → Option B13) (c23 : A23 → Option B23) x, Q10_2 c22 c13 c23 x = run Try.prog κ (G10 c22 c13 c23) (tabL []) 2 (loopAt Try.f10 1) (li10_2.build x) (rnd li10_2 lo10_2) := fun c22 c13 c23 x => by kernel_rfl
theorem le10_0 : ∀ (c22 : A22 → Option B22) (c13 : A13 → Option B13) (c23 : A23 → Option B23) x, Q10_0 c22 c13 c23 x = run Try.prog κ (G10 c22 c13 c23) (tabL []) 0 (loopAt Try.f10 0) (li10_0.build x) (rnd li10_0 lo10_0) := fun c22 c13 c23 x => by kernel_rfl
theorem linner10_2 : ∀ Z : Zn, Z.rl = [] → 112 ≤ Z.nt → ∀ p ∈ loops 2 (loopAt Try.f10 1), ∀ C, (tabL []) p.1 = some C → LoopOK κ Try.prog Z p.2 C := fun Z h n => fun p hp => (by cases (show p ∈ ([] : List (Nat × Code)) from hp))
theorem lk10_2 : ∀ Z : Zn, Z.rl = [] → 112 ≤ Z.nt → LoopOK κ Try.prog Z (loopAt Try.f10 1) L10_2 := fun Z h n => loop_ok (S := (tabL [])) R10_2 (by kernel_rfl) g10 (by rw [h]; exact dsts_mono n _ (by kernel_rfl)) (linner10_2 Z h n) (by kernel_rfl) (by kernel_rfl) (le10_2 N22 N13 N23) itrs_rounds
theorem linner10_0 : ∀ Z : Zn, Z.rl = [] → 112 ≤ Z.nt → ∀ p ∈ loops 0 (loopAt Try.f10 0), ∀ C, (tabL []) p.1 = some C → LoopOK κ Try.prog Z p.2 C := fun Z h n => fun p hp => (by cases (show p ∈ ([] : List (Nat × Code)) from hp))
theorem lk10_0 : ∀ Z : Zn, Z.rl = [] → 112 ≤ Z.nt → LoopOK κ Try.prog Z (loopAt Try.f10 0) L10_0 := fun Z h n => loop_ok (S := (tabL [])) R10_0 (by kernel_rfl) g10 (by rw [h]; exact dsts_mono n _ (by kernel_rfl)) (linner10_0 Z h n) (by kernel_rfl) (by kernel_rfl) (le10_0 N22 N13 N23) itrs_rounds
theorem lall10 : ∀ Z : Zn, Z.rl = C10.o.keeps → Try.f10.ntmps ≤ Z.nt → ∀ p ∈ loops 0 (bodyOf Try.f10), ∀ C, (tabL [(0, L10_0), (2, L10_2)]) p.1 = some C → LoopOK κ Try.prog Z p.2 C := fun Z h n => all_loops [(0, loopAt Try.f10 0), (2, loopAt Try.f10 1)] (by kernel_rfl) (all_cons (fun C hC => (Option.some.inj hC : L10_0 = C) ▸ lk10_0 Z h n) (all_cons (fun C hC => (Option.some.inj hC : L10_2 = C) ▸ lk10_2 Z h n) (fun _ h => by cases h)))
theorem e10 : ∀ (c22 : A22 → Option B22) (c13 : A13 → Option B13) (c23 : A23 → Option B23) (l10_0 : LA10_0 → Option LB10_0) (l10_2 : LA10_2 → Option LB10_2) x, M10 c22 c13 c23 l10_0 l10_2 x = fnE Try.prog κ (G10 c22 c13 c23) (tabL [(0, (⟨li10_0, l10_0, lo10_0⟩ : Lc τ)), (2, (⟨li10_2, l10_2, lo10_2⟩ : Lc τ))]) Try.f10 i10 o10 x := fun c22 c13 c23 l10_0 l10_2 x => by kernel_rfl
theorem s10 : Sound κ Try.prog C10 10 := fn_sound (S := (tabL [(0, L10_0), (2, L10_2)])) (F := Try.f10) (code := bodyOf Try.f10) (by kernel_rfl) g10 Try.func10 (by kernel_rfl) (by kernel_rfl) (by kernel_rfl) lall10 (by kernel_rfl) (by kernel_rfl) fun x y h => (e10 N22 N13 N23 (itrs R10_0) (itrs R10_2) x).symm.trans h
end Go.Proofs.Ytnlajjeppdchiaa.E
namespace Go.Proofs.Ytnlajjeppdchiaa.E
open Go
set_option linter.unusedVariables false
set_option maxRecDepth 100000
abbrev A3 : Type := ((List T27) × Unit)
abbrev B3 : Type := (Bool × Unit)
def i3 : Fr τ A3 := (.val 0 (.sl 27) .nil)
def o3 : Fr τ B3 := (.val 1000 .bool .nil)
def G3 (c7 : A7 → Option B7) (c8 : A8 → Option B8) (c9 : A9 → Option B9) (c10 : A10 → Option B10) (c11 : A11 → Option B11) : Nat → Option (Ctr τ) := tabG [(7, (⟨i7, o7, c7⟩ : Ctr τ)), (8, (⟨i8, o8, c8⟩ : Ctr τ)), (9, (⟨i9, o9, c9⟩ : Ctr τ)), (10, (⟨i10, o10, c10⟩ : Ctr τ)), (11, (⟨i11, o11, c11⟩ : Ctr τ))]
def M3 (c7 : A7 → Option B7) (c8 : A8 → Option B8) (c9 : A9 → Option B9) (c10 : A10 → Option B10) (c11 : A11 → Option B11) : A3 → Option B3 := fun ⟨tables', ()⟩ => ((c7 ()).bind fun ⟨y0, ()⟩ => (bif !y0 then (some (false, ())) else ((c8 (tables', ())).bind fun ⟨y2, ()⟩ => (bif decide (y2 > 4096) then (some (true, ())) else ((c9 (tables', ())).bind fun ⟨⟨y4_0, ⟨y4_1, y4_2⟩⟩, ⟨y4_3, ()⟩⟩ => ((c10 (tables', ())).bind fun ⟨⟨y5_0, ⟨y5_1, y5_2⟩⟩, ⟨y5_3, ()⟩⟩ => (bif y4_3 == y5_3 then ((c11 ((y4_0, (y4_1, y4_2)), ((y5_0, (y5_1, y5_2)), ()))).bind fun ⟨y7, ()⟩ => (some (y7, ()))) else (some (false, ())))))))))
def N3 : A3 → Option B3 := M3 N7 N8 N9 N10 N11
def C3 : Ctr τ := ⟨i3, o3, N3⟩
theorem g3 : GOK κ Try.prog (G3 N7 N8 N9 N10 N11) := (gok_cons s7 (gok_cons s8 (gok_cons s9 (gok_cons s10 (gok_cons s11 gok_nil)))))
theorem lall3 : ∀ Z : Zn, Z.rl = C3.o.keeps → Try.f3.ntmps ≤ Z.nt → ∀ p ∈ loops 0 (bodyOf Try.f3), ∀ C, (tabL []) p.1 = some C → LoopOK κ Try.prog Z p.2 C := fun Z h n => fun p hp => (by cases (show p ∈ ([] : List (Nat × Code)) from hp))
theorem e3 : ∀ (c7 : A7 → Option B7) (c8 : A8 → Option B8) (c9 : A9 → Option B9) (c10 : A10 → Option B10) (c11 : A11 → Option B11) x, M3 c7 c8 c9 c10 c11 x = fnE Try.prog κ (G3 c7 c8 c9 c10 c11) (tabL []) Try.f3 i3 o3 x := fun c7 c8 c9 c10 c11 x => by kernel_rfl
theorem s3 : Sound κ Try.prog C3 3 := fn_sound (S := (tabL [])) (F := Try.f3) (code := bodyOf Try.f3) (by kernel_rfl) g3 Try.func3 (by kernel_rfl) (by kernel_rfl) (by kernel_rfl) lall3 (by kernel_rfl) (by kernel_rfl) fun x y h => (e3 N7 N8 N9 N10 N11 x).symm.trans h
end Go.Proofs.Ytnlajjeppdchiaa.E
namespace Go.Proofs.Ytnlajjeppdchiaa.E
open Go
set_option linter.unusedVariables false
set_option maxRecDepth 100000
abbrev A5 : Type := ((List T27) × Int × Unit)
abbrev B5 : Type := (Bool × Unit)
def i5 : Fr τ A5 := (.val 0 (.sl 27) (.val 1 (.int .i64) .nil))
def o5 : Fr τ B5 := (.val 1000 .bool .nil)
def G5 (c7 : A7 → Option B7) (c8 : A8 → Option B8) (c9 : A9 → Option B9) (c11 : A11 → Option B11) (c14 : A14 → Option B14) : Nat → Option (Ctr τ) := tabG [(7, (⟨i7, o7, c7⟩ : Ctr τ)), (8, (⟨i8, o8, c8⟩ : Ctr τ)), (9, (⟨i9, o9, c9⟩ : Ctr τ)), (11, (⟨i11, o11, c11⟩ : Ctr τ)), (14, (⟨i14, o14, c14⟩ : Ctr τ))]
abbrev LA5_0 : Type := ((List T27) × Int × (List T27) × Int × Unit)
abbrev LB5_0 : Type := ((List T27) × Int × (List T27) × Unit)
def li5_0 : Fr τ LA5_0 := (.val 0 (.sl 27) (.val 1 (.int .i64) (.own 5 27 (.val 6 (.int .i64) .nil))))
def lo5_0 : Ot τ LB5_0 := .one (.exit 0) (.val 0 (.sl 27) (.val 1 (.int .i64) (.own 5 27 .nil)))
def Q5_0 (c7 : A7 → Option B7) (c8 : A8 → Option B8) (c9 : A9 → Option B9) (c11 : A11 → Option B11) (c14 : A14 → Option B14) : LA5_0 → Option (LA5_0 ⊕ LB5_0) := fun ⟨tables', ⟨first', ⟨back', ⟨i', ()⟩⟩⟩⟩ => (bif decide (i' ≥ 0) then ((bif decide (0 ≤ i') then tables'[Int.toNat i']? else none).bind fun ⟨y1_0, ⟨y1_1, y1_2⟩⟩ => ((bif decide ((List.length back' + 1) * 40 ≤ 210000000000000) then some () else none).bind fun () => (let v0 : Int := i' - 1; let v1 : Int := IntKind.wrap IntKind.i64 v0; some (.inl (tables', (first', (back' ++ [(y1_0, y1_1, y1_2)], (v1, ())))))))) else (some (.inr (tables', (first', (back', ()))))))
def R5_0 : LA5_0 → Option (LA5_0 ⊕ LB5_0) := Q5_0 N7 N8 N9 N11 N14
def L5_0 : Lc τ := ⟨li5_0, itrs R5_0, lo5_0⟩
def M5 (c7 : A7 → Option B7) (c8 : A8 → Option B8) (c9 : A9 → Option B9) (c11 : A11 → Option B11) (c14 : A14 → Option B14) (l5_0 : LA5_0 → Option LB5_0) : A5 → Option B5 := fun ⟨tables', ⟨first', ()⟩⟩ => ((c7 ()).bind fun ⟨y0, ()⟩ => (bif !y0 then (some (false, ())) else ((c8 (tables', ())).bind fun ⟨y2, ()⟩ => (bif decide (y2 > 4096) then (some (true, ())) else (let v0 : Int := ↑(List.length tables'); bif v0 == 0 then (some (true, ())) else (let v1 : Int := v0 - 1; let v2 : Int := IntKind.wrap IntKind.i64 v1; (l5_0 (tables', (first', ([], (v2, ()))))).bind fun ⟨y5_0, ⟨y5_1, ⟨y5_2, ()⟩⟩⟩ => (let v3 : Int := ↑(List.length y5_0); let v4 : Int := IntKind.wrap IntKind.u64 v3; (bif !v4 == 0 then some () else none).bind fun () => (let v5 : Int := IntKind.wrap IntKind.u64 y5_1; let v6 : Int := Int.tmod v5 v4; let v7 : Int := IntKind.wrap IntKind.i64 v6; (bif decide (0 ≤ v7) && decide (v7 ≤ v3) && decide (v3 ≤ v3) then some () else none).bind fun () => ((bif decide ((0 + List.length (List.take (Int.toNat v3 - Int.toNat v7) (List.drop (Int.toNat v7) y5_0))) * 40 ≤ 210000000000000) then some () else none).bind fun () => ((bif true && decide (0 ≤ v7) && decide (v7 ≤ v3) then some () else none).bind fun () => ((bif decide ((List.length ([] ++ List.take (Int.toNat v3 - Int.toNat v7) (List.drop (Int.toNat v7) y5_0)) + List.length (List.take (Int.toNat v7 - 0) (List.drop 0 y5_0))) * 40 ≤ 210000000000000) then some () else none).bind fun () => ((c9 (y5_0, ())).bind fun ⟨⟨y11_0, ⟨y11_1, y11_2⟩⟩, ⟨y11_3, ()⟩⟩ => ((c9 (y5_2, ())).bind fun ⟨⟨y12_0, ⟨y12_1, y12_2⟩⟩, ⟨y12_3, ()⟩⟩ => ((c9 ([] ++ List.take (Int.toNat v3 - Int.toNat v7) (List.drop (Int.toNat v7) y5_0) ++ List.take (Int.toNat v7 - 0) (List.drop 0 y5_0), ())).bind fun ⟨⟨y13_0, ⟨y13_1, y13_2⟩⟩, ⟨y13_3, ()⟩⟩ => (bif y11_3 == 0 then (bif y12_3 != 0 then (some (false, ())) else (bif y13_3 != 0 then (some (false, ())) else ((c11 ((y11_0, (y11_1, y11_2)), ((y12_0, (y12_1, y12_2)), ()))).bind fun ⟨y17, ()⟩ => (bif !y17 then (some (false, ())) else ((c11 ((y11_0, (y11_1, y11_2)), ((y13_0, (y13_1, y13_2)), ()))).bind fun ⟨y19, ()⟩ => (bif !y19 then (some (false, ())) else (bif !(y11_3 == 0) == (y12_3 == 0) then (some (false, ())) else (bif !(y11_3 == 0) == (y13_3 == 0) then (some (false, ())) else ((bif decide (0 ≤ v7) then y5_0[Int.toNat v7]? else none).bind fun ⟨y23_0, ⟨y23_1, y23_2⟩⟩ => ((c9 ([(y23_0, y23_1, y23_2)], ())).bind fun ⟨⟨y24_0, ⟨y24_1, y24_2⟩⟩, ⟨y24_3, ()⟩⟩ => ((bif decide (0 ≤ v7) then y5_0[Int.toNat v7]? else none).bind fun ⟨y25_0, ⟨y25_1, y25_2⟩⟩ => ((c14 ((y25_0, (y25_1, y25_2)), ())).bind fun ⟨y26, ()⟩ => (bif !y26 == (y24_3 == 0) then (some (false, ())) else (bif y24_3 == 0 then ((bif decide (0 ≤ v7) then y5_0[Int.toNat v7]? else none).bind fun ⟨y29_0, ⟨y29_1, y29_2⟩⟩ => ((c11 ((y24_0, (y24_1, y24_2)), ((y29_0, (y29_1, y29_2)), ()))).bind fun ⟨y30, ()⟩ => (bif !y30 then (some (false, ())) else ((y5_0[0]?).bind fun ⟨y32_0, ⟨y32_1, y32_2⟩⟩ => ((y5_0[0]?).bind fun ⟨y33_0, ⟨y33_1, y33_2⟩⟩ => ((bif decide ((1 + List.length y5_0) * 40 ≤ 210000000000000) then some () else none).bind fun () => ((c9 ([(y32_0, y33_1, [(0, (0, 0), (0, 0), 0, 0)])] ++ y5_0, ())).bind fun ⟨⟨y35_0, ⟨y35_1, y35_2⟩⟩, ⟨y35_3, ()⟩⟩ => (bif y35_3 == y11_3 then ((c11 ((y35_0, (y35_1, y35_2)), ((y11_0, (y11_1, y11_2)), ()))).bind fun ⟨y37, ()⟩ => (some (y37, ()))) else (some (false, ())))))))))) else ((y5_0[0]?).bind fun ⟨y29_0, ⟨y29_1, y29_2⟩⟩ => ((y5_0[0]?).bind fun ⟨y30_0, ⟨y30_1, y30_2⟩⟩ => ((bif decide ((1 + List.length y5_0) * 40 ≤ 210000000000000) then some () else none).bind fun () => ((c9 ([(y29_0, y30_1, [(0, (0, 0), (0, 0), 0, 0)])] ++ y5_0, ())).bind fun ⟨⟨y32_0, ⟨y32_1, y32_2⟩⟩, ⟨y32_3, ()⟩⟩ => (bif y32_3 == y11_3 then ((c11 ((y32_0, (y32_1, y32_2)), ((y11_0, (y11_1, y11_2)), ()))).bind fun ⟨y34, ()⟩ => (some (y34, ()))) else (some (false, ()))))))))))))))))))))) else (bif !(y11_3 == 0) == (y12_3 == 0) then (some (false, ())) else (bif !(y11_3 == 0) == (y13_3 == 0) then (some (false, ())) else ((bif decide (0 ≤ v7) then y5_0[Int.toNat v7]? else none).bind fun ⟨y17_0, ⟨y17_1, y17_2⟩⟩ => ((c9 ([(y17_0, y17_1, y17_2)], ())).bind fun ⟨⟨y18_0, ⟨y18_1, y18_2⟩⟩, ⟨y18_3, ()⟩⟩ => ((bif decide (0 ≤ v7) then y5_0[Int.toNat v7]? else none).bind fun ⟨y19_0, ⟨y19_1, y19_2⟩⟩ => ((c14 ((y19_0, (y19_1, y19_2)), ())).bind fun ⟨y20, ()⟩ => (bif !y20 == (y18_3 == 0) then (some (false, ())) else (bif y18_3 == 0 then ((bif decide (0 ≤ v7) then y5_0[Int.toNat v7]? else none).bind fun ⟨y23_0, ⟨y23_1, y23_2⟩⟩ => ((c11 ((y18_0, (y18_1, y18_2)), ((y23_0, (y23_1, y23_2)), ()))).bind fun ⟨y24, ()⟩ => (bif !y24 then (some (false, ())) else ((y5_0[0]?).bind fun ⟨y26_0, ⟨y26_1, y26_2⟩⟩ => ((y5_0[0]?).bind fun ⟨y27_0, ⟨y27_1, y27_2⟩⟩ => ((bif decide ((1 + List.length y5_0) * 40 ≤ 210000000000000) then some () else none).bind fun () => ((c9 ([(y26_0, y27_1, [(0, (0, 0), (0, 0), 0, 0)])] ++ y5_0, ())).bind fun ⟨⟨y29_0, ⟨y29_1, y29_2⟩⟩, ⟨y29_3, ()⟩⟩ => (bif y29_3 == y11_3 then ((c11 ((y29_0, (y29_1, y29_2)), ((y11_0, (y11_1, y11_2)), ()))).bind fun ⟨y31, ()⟩ => (some (y31, ()))) else (some (false, ())))))))))) else ((y5_0[0]?).bind fun ⟨y23_0, ⟨y23_1, y23_2⟩⟩ => ((y5_0[0]?).bind fun ⟨y24_0, ⟨y24_1, y24_2⟩⟩ => ((bif decide ((1 + List.length y5_0) * 40 ≤ 210000000000000) then some () else none).bind fun () => ((c9 ([(y23_0, y24_1, [(0, (0, 0), (0, 0), 0, 0)])] ++ y5_0, ())).bind fun ⟨⟨y26_0, ⟨y26_1, y26_2⟩⟩, ⟨y26_3, ()⟩⟩ => (bif y26_3 == y11_3 then ((c11 ((y26_0, (y26_1, y26_2)), ((y11_0, (y11_1, y11_2)), ()))).bind fun ⟨y28, ()⟩ => (some (y28, ()))) else (some (false, ()))))))))))))))))))))))))))))))
def N5 : A5 → Option B5 := M5 N7 N8 N9 N11 N14 (itrs R5_0)
def C5 : Ctr τ := ⟨i5, o5, N5⟩
theorem g5 : GOK κ Try.prog (G5 N7 N8 N9 N11 N14) := (gok_cons s7 (gok_cons s8 (gok_cons s9 (gok_cons s11 (gok_cons s14 gok_nil)))))
theorem le5_0 : ∀ (c7 : A7 → Option B7) (c8 : A8 → Option B8) (c9 : A9 → Option B9) (c11 : A11 → Option B11) (c14 : A14 → Option B14) x, Q5_0 c7 c8 c9 c11 c14 x = run Try.prog κ (G5 c7 c8 c9 c11 c14) (tabL []) 0 (loopAt Try.f5 0) (li5_0.build x) (rnd li5_0 lo5_0) := fun c7 c8 c9 c11 c14 x => by kernel_rfl
theorem linner5_0 : ∀ Z : Zn, Z.rl = [] → 171 ≤ Z.nt → ∀ p ∈ loops 0 (loopAt Try.f5 0), ∀ C, (tabL []) p.1 = some C → LoopOK κ Try.prog Z p.2 C := fun Z h n => fun p hp => (by cases (show p ∈ ([] : List (Nat × Code)) from hp))
theorem lk5_0 : ∀ Z : Zn, Z.rl = [] → 171 ≤ Z.nt → LoopOK κ Try.prog Z (loopAt Try.f5 0) L5_0 := fun Z h n => loop_ok (S := (tabL [])) R5_0 (by kernel_rfl) g5 (by rw [h]; exact dsts_mono n _ (by kernel_rfl)) (linner5_0 Z h n) (by kernel_rfl) (by kernel_rfl) (le5_0 N7 N8 N9 N11 N14) itrs_rounds
theorem lall5 : ∀ Z : Zn, Z.rl = C5.o.keeps → Try.f5.ntmps ≤ Z.nt → ∀ p ∈ loops 0 (bodyOf Try.f5), ∀ C, (tabL [(0, L5_0)]) p.1 = some C → LoopOK κ Try.prog Z p.2 C := fun Z h n => all_loops [(0, loopAt Try.f5 0)] (by kernel_rfl) (all_cons (fun C hC => (Option.some.inj hC : L5_0 = C) ▸ lk5_0 Z h n) (fun _ h => by cases h))
theorem e5 : ∀ (c7 : A7 → Option B7) (c8 : A8 → Option B8) (c9 : A9 → Option B9) (c11 : A11 → Option B11) (c14 : A14 → Option B14) (l5_0 : LA5_0 → Option LB5_0) x, M5 c7 c8 c9 c11 c14 l5_0 x = fnE Try.prog κ (G5 c7 c8 c9 c11 c14) (tabL [(0, (⟨li5_0, l5_0, lo5_0⟩ : Lc τ))]) Try.f5 i5 o5 x := fun c7 c8 c9 c11 c14 l5_0 x => by kernel_rfl
theorem s5 : Sound κ Try.prog C5 5 := fn_sound (S := (tabL [(0, L5_0)])) (F := Try.f5) (code := bodyOf Try.f5) (by kernel_rfl) g5 Try.func5 (by kernel_rfl) (by kernel_rfl) (by kernel_rfl) lall5 (by kernel_rfl) (by kernel_rfl) fun x y h => (e5 N7 N8 N9 N11 N14 (itrs R5_0) x).symm.trans h
end Go.Proofs.Ytnlajjeppdchiaa.E
namespace Go.Proofs.Ytnlajjeppdchiaa.E
open Go
set_option linter.unusedVariables false
set_option maxRecDepth 100000
abbrev A28 : Type := ((Int × ((Int × Int) × ((Int × Int) × (Int × Int)))) × Int × Unit)
abbrev B28 : Type := (Int × Unit)
def i28 : Fr τ A28 := (.val 0 (.pair (.int .i64) (.pair (.pair (.int .i64) (.int .u64)) (.pair (.pair (.int .i64) (.int .u64)) (.pair (.int .i64) (.int .u64))))) (.val 1 (.int .i64) .nil))
def o28 : Fr τ B28 := (.val 1000 (.int .i64) .nil)
def G28 : Nat → Option (Ctr τ) := tabG []
def M28 : A28 → Option B28 := fun ⟨⟨p'_0, ⟨⟨p'_1, p'_2⟩, ⟨⟨p'_3, p'_4⟩, ⟨p'_5, p'_6⟩⟩⟩⟩, ⟨q', ()⟩⟩ => (let v0 : Int := p'_0 - q'; let v1 : Int := IntKind.wrap IntKind.i64 v0; some (if 1 < if -1 > v1 then -1 else v1 then 1 else if -1 > v1 then -1 else v1, ()))
def N28 : A28 → Option B28 := M28
def C28 : Ctr τ := ⟨i28, o28, N28⟩
theorem g28 : GOK κ Try.prog (G28) := gok_nil
theorem lall28 : ∀ Z : Zn, Z.rl = C28.o.keeps → Try.f28.ntmps ≤ Z.nt → ∀ p ∈ loops 0 (bodyOf Try.f28), ∀ C, (tabL []) p.1 = some C → LoopOK κ Try.prog Z p.2 C := fun Z h n => fun p hp => (by cases (show p ∈ ([] : List (Nat × Code)) from hp))
theorem e28 : ∀ x, M28 x = fnE Try.prog κ (G28) (tabL []) Try.f28 i28 o28 x := fun x => by kernel_rfl
theorem s28 : Sound κ Try.prog C28 28 := fn_sound (S := (tabL [])) (F := Try.f28) (code := bodyOf Try.f28) (by kernel_rfl) g28 Try.func28 (by kernel_rfl) (by kernel_rfl) (by kernel_rfl) lall28 (by kernel_rfl) (by kernel_rfl) fun x y h => (e28 x).symm.trans h
end Go.Proofs.Ytnlajjeppdchiaa.E
namespace Go.Proofs.Ytnlajjeppdchiaa.E
open Go
set_option linter.unusedVariables false
set_option maxRecDepth 100000
abbrev A27 : Type := ((List T43) × Int × Unit × Unit)
abbrev B27 : Type := (Int × Bool × Unit)
def i27 : Fr τ A27 := (.val 0 (.sl 43) (.val 1 (.int .i64) (.val 2 (.fnc 28) .nil)))
def o27 : Fr τ B27 := (.val 1000 (.int .i64) (.val 1001 .bool .nil))
def G27 (c28 : A28 → Option B28) : Nat → Option (Ctr τ) := tabG [(28, (⟨i28, o28, c28⟩ : Ctr τ))]
abbrev LA27_0 : Type := ((List T43) × Int × Unit × Int × Int × Int × Unit)
abbrev LB27_0 : Type := ((List T43) × Int × Unit × Int × Int × Unit)
def li27_0 : Fr τ LA27_0 := (.val 0 (.sl 43) (.val 1 (.int .i64) (.val 2 (.fnc 28) (.val 8 (.int .i64) (.val 9 (.int .i64) (.val 10 (.int .i64) .nil))))))
def lo27_0 : Ot τ LB27_0 := .one (.exit 0) (.val 0 (.sl 43) (.val 1 (.int .i64) (.val 2 (.fnc 28) (.val 8 (.int .i64) (.val 9 (.int .i64) .nil)))))
def Q27_0 (c28 : A28 → Option B28) : LA27_0 → Option (LA27_0 ⊕ LB27_0) := fun ⟨x', ⟨target', ⟨(), ⟨cmp', ⟨n', ⟨i', ()⟩⟩⟩⟩⟩⟩ => (bif decide (n' < i') then (let v0 : Int := n' + i'; let v1 : Int := IntKind.wrap IntKind.i64 v0; let v2 : Int := IntKind.wrap IntKind.u64 v1; let v3 : Int := Int.fdiv v2 2; let v4 : Int := IntKind.wrap IntKind.i64 v3; (bif decide (0 ≤ v4) then x'[Int.toNat v4]? else none).bind fun ⟨y1_0, ⟨⟨y1_1, y1_2⟩, ⟨⟨y1_3, y1_4⟩, ⟨y1_5, y1_6⟩⟩⟩⟩ => ((c28 ((y1_0, ((y1_1, y1_2), ((y1_3, y1_4), (y1_5, y1_6)))), (target', ()))).bind fun ⟨y2, ()⟩ => (bif decide (y2 < 0) then (let v5 : Int := v4 + 1; let v6 : Int := IntKind.wrap IntKind.i64 v5; some (.inl (x', (target', ((), (cmp', (v6, (i', ())))))))) else (some (.inl (x', (target', ((), (cmp', (n', (v4, ()))))))))))) else (some (.inr (x', (target', ((), (cmp', (n', ()))))))))
def R27_0 : LA27_0 → Option (LA27_0 ⊕ LB27_0) := Q27_0 N28
def L27_0 : Lc τ := ⟨li27_0, itrs R27_0, lo27_0⟩
def M27 (c28 : A28 → Option B28) (l27_0 : LA27_0 → Option LB27_0) : A27 → Option B27 := fun ⟨x', ⟨target', ⟨(), ()⟩⟩⟩ => (let v0 : Int := ↑(List.length x'); (l27_0 (x', (target', ((), (v0, (0, (v0, ()))))))).bind fun ⟨y0_0, ⟨y0_1, ⟨(), ⟨y0_2, ⟨y0_3, ()⟩⟩⟩⟩⟩ => (bif decide (y0_3 < y0_2) then ((bif decide (0 ≤ y0_3) then y0_0[Int.toNat y0_3]? else none).bind fun ⟨y2_0, ⟨⟨y2_1, y2_2⟩, ⟨⟨y2_3, y2_4⟩, ⟨y2_5, y2_6⟩⟩⟩⟩ => ((c28 ((y2_0, ((y2_1, y2_2), ((y2_3, y2_4), (y2_5, y2_6)))), (y0_1, ()))).bind fun ⟨y3, ()⟩ => (some (y0_3, (y3 == 0, ()))))) else (some (y0_3, (false, ())))))
def N27 : A27 → Option B27 := M27 N28 (itrs R27_0)
def C27 : Ctr τ := ⟨i27, o27, N27⟩
theorem g27 : GOK κ Try.prog (G27 N28) := (gok_cons s28 gok_nil)
theorem le27_0 : ∀ (c28 : A28 → Option B28) x, Q27_0 c28 x = run Try.prog κ (G27 c28) (tabL []) 0 (loopAt Try.f27 0) (li27_0.build x) (rnd li27_0 lo27_0) := fun c28 x => by kernel_rfl
theorem linner27_0 : ∀ Z : Zn, Z.rl = [] → 49 ≤ Z.nt → ∀ p ∈ loops 0 (loopAt Try.f27 0), ∀ C, (tabL []) p.1 = some C → LoopOK κ Try.prog Z p.2 C := fun Z h n => fun p hp => (by cases (show p ∈ ([] : List (Nat × Code)) from hp))
theorem lk27_0 : ∀ Z : Zn, Z.rl = [] → 49 ≤ Z.nt → LoopOK κ Try.prog Z (loopAt Try.f27 0) L27_0 := fun Z h n => loop_ok (S := (tabL [])) R27_0 (by kernel_rfl) g27 (by rw [h]; exact dsts_mono n _ (by kernel_rfl)) (linner27_0 Z h n) (by kernel_rfl) (by kernel_rfl) (le27_0 N28) itrs_rounds
theorem lall27 : ∀ Z : Zn, Z.rl = C27.o.keeps → Try.f27.ntmps ≤ Z.nt → ∀ p ∈ loops 0 (bodyOf Try.f27), ∀ C, (tabL [(0, L27_0)]) p.1 = some C → LoopOK κ Try.prog Z p.2 C := fun Z h n => all_loops [(0, loopAt Try.f27 0)] (by kernel_rfl) (all_cons (fun C hC => (Option.some.inj hC : L27_0 = C) ▸ lk27_0 Z h n) (fun _ h => by cases h))
theorem e27 : ∀ (c28 : A28 → Option B28) (l27_0 : LA27_0 → Option LB27_0) x, M27 c28 l27_0 x = fnE Try.prog κ (G27 c28) (tabL [(0, (⟨li27_0, l27_0, lo27_0⟩ : Lc τ))]) Try.f27 i27 o27 x := fun c28 l27_0 x => by kernel_rfl
theorem s27 : Sound κ Try.prog C27 27 := fn_sound (S := (tabL [(0, L27_0)])) (F := Try.f27) (code := bodyOf Try.f27) (by kernel_rfl) g27 Try.func27 (by kernel_rfl) (by kernel_rfl) (by kernel_rfl) lall27 (by kernel_rfl) (by kernel_rfl) fun x y h => (e27 N28 (itrs R27_0) x).symm.trans h
end Go.Proofs.Ytnlajjeppdchiaa.E
namespace Go.Proofs.Ytnlajjeppdchiaa.E
open Go
set_option linter.unusedVariables false
set_option maxRecDepth 100000
abbrev A36 : Type := (Int × Int × Unit)
abbrev B36 : Type := (Bool × Unit)
def i36 : Fr τ A36 := (.val 0 (.int .i64) (.val 1 (.int .i64) .nil))
def o36 : Fr τ B36 := (.val 1000 .bool .nil)
def G36 : Nat → Option (Ctr τ) := tabG []
def M36 : A36 → Option B36 := fun ⟨size', ⟨q', ()⟩⟩ => (bif decide (size' ≥ 1) then (bif decide (size' ≤ 1000000000000) then (bif decide (q' ≥ 0) then (some (decide (q' ≤ 1099511627776), ())) else (some (false, ()))) else (some (false, ()))) else (some (false, ())))
def N36 : A36 → Option B36 := M36
def C36 : Ctr τ := ⟨i36, o36, N36⟩
theorem g36 : GOK κ Try.prog (G36) := gok_nil
theorem lall36 : ∀ Z : Zn, Z.rl = C36.o.keeps → Try.f36.ntmps ≤ Z.nt → ∀ p ∈ loops 0 (bodyOf Try.f36), ∀ C, (tabL []) p.1 = some C → LoopOK κ Try.prog Z p.2 C := fun Z h n => fun p hp => (by cases (show p ∈ ([] : List (Nat × Code)) from hp))
theorem e36 : ∀ x, M36 x = fnE Try.prog κ (G36) (tabL []) Try.f36 i36 o36 x := fun x => by kernel_rfl
theorem s36 : Sound κ Try.prog C36 36 := fn_sound (S := (tabL [])) (F := Try.f36) (code := bodyOf Try.f36) (by kernel_rfl) g36 Try.func36 (by kernel_rfl) (by kernel_rfl) (by kernel_rfl) lall36 (by kernel_rfl) (by kernel_rfl) fun x y h => (e36 x).symm.trans h
end Go.Proofs.Ytnlajjeppdchiaa.E
namespace Go.Proofs.Ytnlajjeppdchiaa.E
open Go
set_option linter.unusedVariables false
set_option maxRecDepth 100000
abbrev A43 : Type := ((Int × Int) × Unit)
abbrev B43 : Type := (Int × Int × Unit)
def i43 : Fr τ A43 := (.val 0 (.pair (.int .i64) (.int .u64)) .nil)
def o43 : Fr τ B43 := (.val 1000 (.int .u64) (.val 1001 (.int .u64) .nil))
def G43 (c48 : (Int × Int × Int × Unit) → Option (Int × Int × Unit)) : Nat → Option (Ctr τ) := tabG [(48, ({ (cSub64 (τ := τ)) with f := c48 } : Ctr τ))]
def M43 (c48 : (Int × Int × Int × Unit) → Option (Int × Int × Unit)) : A43 → Option B43 := fun ⟨⟨w'_0, w'_1⟩, ()⟩ => (bif decide (w'_0 ≥ 0) then (let v0 : Int := IntKind.wrap IntKind.u64 w'_0; some (v0, (w'_1, ()))) else ((c48 (0, (w'_1, (0, ())))).bind fun ⟨y1_0, ⟨y1_1, ()⟩⟩ => (let v0 : Int := IntKind.wrap IntKind.u64 w'_0; (c48 (0, (v0, (y1_1, ())))).bind fun ⟨y2_0, ⟨y2_1, ()⟩⟩ => (some (y2_0, (y1_0, ()))))))
def N43 : A43 → Option B43 := M43 (cSub64 (τ := τ)).f
def C43 : Ctr τ := ⟨i43, o43, N43⟩
theorem t43_48 : Sound κ Try.prog cSub64 48 := sub64_sound Try.func48 (by kernel_rfl) (by kernel_rfl) (by kernel_rfl) (by kernel_rfl)
theorem g43 : GOK κ Try.prog (G43 (cSub64 (τ := τ)).f) := (gok_cons t43_48 gok_nil)
theorem lall43 : ∀ Z : Zn, Z.rl = C43.o.keeps → Try.f43.ntmps ≤ Z.nt → ∀ p ∈ loops 0 (bodyOf Try.f43), ∀ C, (tabL []) p.1 = some C → LoopOK κ Try.prog Z p.2 C := fun Z h n => fun p hp => (by cases (show p ∈ ([] : List (Nat × Code)) from hp))
theorem e43 : ∀ (c48 : (Int × Int × Int × Unit) → Option (Int × Int × Unit)) x, M43 c48 x = fnE Try.prog κ (G43 c48) (tabL []) Try.f43 i43 o43 x := fun c48 x => by kernel_rfl
theorem s43 : Sound κ Try.prog C43 43 := fn_sound (S := (tabL [])) (F := Try.f43) (code := bodyOf Try.f43) (by kernel_rfl) g43 Try.func43 (by kernel_rfl) (by kernel_rfl) (by kernel_rfl) lall43 (by kernel_rfl) (by kernel_rfl) fun x y h => (e43 (cSub64 (τ := τ)).f x).symm.trans h
end Go.Proofs.Ytnlajjeppdchiaa.E
namespace Go.Proofs.Ytnlajjeppdchiaa.E
open Go
set_option linter.unusedVariables false
set_option maxRecDepth 100000
abbrev A44 : Type := (Int × Int × Unit)
abbrev B44 : Type := (Int × Int × Unit)
def i44 : Fr τ A44 := (.val 0 (.int .u64) (.val 1 (.int .u64) .nil))
def o44 : Fr τ B44 := (.val 1000 (.int .u64) (.val 1001 (.int .u64) .nil))
def G44 : Nat → Option (Ctr τ) := tabG []
def M44 : A44 → Option B44 := fun ⟨x', ⟨y', ()⟩⟩ => (let v0 : Int := Int.fdiv x' 4294967296; let v1 : Int := Int.fdiv y' 4294967296; let v2 : Int := v0 * v1; let v3 : Int := IntKind.wrap IntKind.u64 v2; let v4 : Int := ↑(BitVec.toNat (BitVec.ofInt 64 y' &&& BitVec.ofInt 64 4294967295)); let v5 : Int := IntKind.wrap IntKind.u64 v4; let v6 : Int := v0 * v5; let v7 : Int := IntKind.wrap IntKind.u64 v6; let v8 : Int := ↑(BitVec.toNat (BitVec.ofInt 64 x' &&& BitVec.ofInt 64 4294967295)); let v9 : Int := IntKind.wrap IntKind.u64 v8; let v10 : Int := v9 * v5; let v11 : Int := IntKind.wrap IntKind.u64 v10; let v12 : Int := Int.fdiv v11 4294967296; let v13 : Int := v7 + v12; let v14 : Int := IntKind.wrap IntKind.u64 v13; let v15 : Int := Int.fdiv v14 4294967296; let v16 : Int := v3 + v15; let v17 : Int := IntKind.wrap IntKind.u64 v16; let v18 : Int := ↑(BitVec.toNat (BitVec.ofInt 64 v14 &&& BitVec.ofInt 64 4294967295)); let v19 : Int := IntKind.wrap IntKind.u64 v18; let v20 : Int := v9 * v1; let v21 : Int := IntKind.wrap IntKind.u64 v20; let v22 : Int := v19 + v21; let v23 : Int := IntKind.wrap IntKind.u64 v22; let v24 : Int := Int.fdiv v23 4294967296; let v25 : Int := v17 + v24; let v26 : Int := IntKind.wrap IntKind.u64 v25; let v27 : Int := x' * y'; let v28 : Int := IntKind.wrap IntKind.u64 v27; some (v26, (v28, ())))
def N44 : A44 → Option B44 := M44
def C44 : Ctr τ := ⟨i44, o44, N44⟩
theorem g44 : GOK κ Try.prog (G44) := gok_nil
theorem lall44 : ∀ Z : Zn, Z.rl = C44.o.keeps → Try.f44.ntmps ≤ Z.nt → ∀ p ∈ loops 0 (bodyOf Try.f44), ∀ C, (tabL []) p.1 = some C → LoopOK κ Try.prog Z p.2 C := fun Z h n => fun p hp => (by cases (show p ∈ ([] : List (Nat × Code)) from hp))
theorem e44 : ∀ x, M44 x = fnE Try.prog κ (G44) (tabL []) Try.f44 i44 o44 x := fun x => by kernel_rfl
theorem s44 : Sound κ Try.prog C44 44 := fn_sound (S := (tabL [])) (F := Try.f44) (code := bodyOf Try.f44) (by kernel_rfl) g44 Try.func44 (by kernel_rfl) (by kernel_rfl) (by kernel_rfl) lall44 (by kernel_rfl) (by kernel_rfl) fun x y h => (e44 x).symm.trans h
end Go.Proofs.Ytnlajjeppdchiaa.E
namespace Go.Proofs.Ytnlajjeppdchiaa.E
open Go
set_option linter.unusedVariables false
set_option maxRecDepth 100000
abbrev A45 : Type := (Bool × Int × Int × Unit)
abbrev B45 : Type := (Int × Unit)
def i45 : Fr τ A45 := (.val 0 .bool (.val 1 (.int .u64) (.val 2 (.int .u64) .nil)))
def o45 : Fr τ B45 := (.val 1000 (.int .u64) .nil)
def G45 : Nat → Option (Ctr τ) := tabG []
def M45 : A45 → Option B45 := fun ⟨first', ⟨a', ⟨b', ()⟩⟩⟩ => (bif first' then (some (a', ())) else (some (b', ())))
def N45 : A45 → Option B45 := M45
def C45 : Ctr τ := ⟨i45, o45, N45⟩
theorem g45 : GOK κ Try.prog (G45) := gok_nil
theorem lall45 : ∀ Z : Zn, Z.rl = C45.o.keeps → Try.f45.ntmps ≤ Z.nt → ∀ p ∈ loops 0 (bodyOf Try.f45), ∀ C, (tabL []) p.1 = some C → LoopOK κ Try.prog Z p.2 C := fun Z h n => fun p hp => (by cases (show p ∈ ([] : List (Nat × Code)) from hp))
theorem e45 : ∀ x, M45 x = fnE Try.prog κ (G45) (tabL []) Try.f45 i45 o45 x := fun x => by kernel_rfl
theorem s45 : Sound κ Try.prog C45 45 := fn_sound (S := (tabL [])) (F := Try.f45) (code := bodyOf Try.f45) (by kernel_rfl) g45 Try.func45 (by kernel_rfl) (by kernel_rfl) (by kernel_rfl) lall45 (by kernel_rfl) (by kernel_rfl) fun x y h => (e45 x).symm.trans h
end Go.Proofs.Ytnlajjeppdchiaa.E
namespace Go.Proofs.Ytnlajjeppdchiaa.E
open Go
set_option linter.unusedVariables false
set_option maxRecDepth 100000
abbrev A50 : Type := ((Int × Int) × (Int × Int) × Unit)
abbrev B50 : Type := ((Int × Int) × Int × Unit)
def i50 : Fr τ A50 := (.val 0 (.pair (.int .i64) (.int .u64)) (.val 1 (.pair (.int .i64) (.int .u64)) .nil))
def o50 : Fr τ B50 := (.val 1000 (.pair (.int .i64) (.int .u64)) (.val 1001 (.int .i64) .nil))
def G50 (c48 : (Int × Int × Int × Unit) → Option (Int × Int × Unit)) : Nat → Option (Ctr τ) := tabG [(48, ({ (cSub64 (τ := τ)) with f := c48 } : Ctr τ))]
def M50 (c48 : (Int × Int × Int × Unit) → Option (Int × Int × Unit)) : A50 → Option B50 := fun ⟨⟨a'_0, a'_1⟩, ⟨⟨b'_0, b'_1⟩, ()⟩⟩ => ((c48 (a'_1, (b'_1, (0, ())))).bind fun ⟨y0_0, ⟨y0_1, ()⟩⟩ => (let v0 : Int := IntKind.wrap IntKind.u64 a'_0; let v1 : Int := IntKind.wrap IntKind.u64 b'_0; (c48 (v0, (v1, (y0_1, ())))).bind fun ⟨y1_0, ⟨y1_1, ()⟩⟩ => (bif !decide (a'_0 < 0) == decide (b'_0 < 0) then (let v2 : Int := IntKind.wrap IntKind.i64 y1_0; bif !decide (v2 < 0) == decide (a'_0 < 0) then (some ((0, 0), (10, ()))) else (some ((v2, y0_0), (0, ())))) else (let v2 : Int := IntKind.wrap IntKind.i64 y1_0; some ((v2, y0_0), (0, ()))))))
def N50 : A50 → Option B50 := M50 (cSub64 (τ := τ)).f
def C50 : Ctr τ := ⟨i50, o50, N50⟩
theorem t50_48 : Sound κ Try.prog cSub64 48 := sub64_sound Try.func48 (by kernel_rfl) (by kernel_rfl) (by kernel_rfl) (by kernel_rfl)
theorem g50 : GOK κ Try.prog (G50 (cSub64 (τ := τ)).f) := (gok_cons t50_48 gok_nil)
theorem lall50 : ∀ Z : Zn, Z.rl = C50.o.keeps → Try.f50.ntmps ≤ Z.nt → ∀ p ∈ loops 0 (bodyOf Try.f50), ∀ C, (tabL []) p.1 = some C → LoopOK κ Try.prog Z p.2 C := fun Z h n => fun p hp => (by cases (show p ∈ ([] : List (Nat × Code)) from hp))
theorem e50 : ∀ (c48 : (Int × Int × Int × Unit) → Option (Int × Int × Unit)) x, M50 c48 x = fnE Try.prog κ (G50 c48) (tabL []) Try.f50 i50 o50 x := fun c48 x => by kernel_rfl
theorem s50 : Sound κ Try.prog C50 50 := fn_sound (S := (tabL [])) (F := Try.f50) (code := bodyOf Try.f50) (by kernel_rfl) g50 Try.func50 (by kernel_rfl) (by kernel_rfl) (by kernel_rfl) lall50 (by kernel_rfl) (by kernel_rfl) fun x y h => (e50 (cSub64 (τ := τ)).f x).symm.trans h
end Go.Proofs.Ytnlajjeppdchiaa.E
namespace Go.Proofs.Ytnlajjeppdchiaa.E
open Go
set_option linter.unusedVariables false
set_option maxRecDepth 100000
abbrev A49 : Type := ((Int × Int) × Unit)
abbrev B49 : Type := ((Int × Int) × Int × Unit)
def i49 : Fr τ A49 := (.val 0 (.pair (.int .i64) (.int .u64)) .nil)
def o49 : Fr τ B49 := (.val 1000 (.pair (.int .i64) (.int .u64)) (.val 1001 (.int .i64) .nil))
def G49 (c50 : A50 → Option B50) : Nat → Option (Ctr τ) := tabG [(50, (⟨i50, o50, c50⟩ : Ctr τ))]
def M49 (c50 : A50 → Option B50) : A49 → Option B49 := fun ⟨⟨a'_0, a'_1⟩, ()⟩ => ((c50 ((0, 0), ((a'_0, a'_1), ()))).bind fun ⟨⟨y0_0, y0_1⟩, ⟨y0_2, ()⟩⟩ => (some ((y0_0, y0_1), (y0_2, ()))))
def N49 : A49 → Option B49 := M49 N50
def C49 : Ctr τ := ⟨i49, o49, N49⟩
theorem g49 : GOK κ Try.prog (G49 N50) := (gok_cons s50 gok_nil)
theorem lall49 : ∀ Z : Zn, Z.rl = C49.o.keeps → Try.f49.ntmps ≤ Z.nt → ∀ p ∈ loops 0 (bodyOf Try.f49), ∀ C, (tabL []) p.1 = some C → LoopOK κ Try.prog Z p.2 C := fun Z h n => fun p hp => (by cases (show p ∈ ([] : List (Nat × Code)) from hp))
theorem e49 : ∀ (c50 : A50 → Option B50) x, M49 c50 x = fnE Try.prog κ (G49 c50) (tabL []) Try.f49 i49 o49 x := fun c50 x => by kernel_rfl
theorem s49 : Sound κ Try.prog C49 49 := fn_sound (S := (tabL [])) (F := Try.f49) (code := bodyOf Try.f49) (by kernel_rfl) g49 Try.func49 (by kernel_rfl) (by kernel_rfl) (by kernel_rfl) lall49 (by kernel_rfl) (by kernel_rfl) fun x y h => (e49 N50 x).symm.trans h
end Go.Proofs.Ytnlajjeppdchiaa.E
namespace Go.Proofs.Ytnlajjeppdchiaa.E
open Go
set_option linter.unusedVariables false
set_option maxRecDepth 100000
abbrev A46 : Type := (Bool × Int × Int × Unit)
abbrev B46 : Type := ((Int × Int) × Int × Unit)
def i46 : Fr τ A46 := (.val 0 .bool (.val 1 (.int .u64) (.val 2 (.int .u64) .nil)))
def o46 : Fr τ B46 := (.val 1000 (.pair (.int .i64) (.int .u64)) (.val 1001 (.int .i64) .nil))
def G46 (c49 : A49 → Option B49) : Nat → Option (Ctr τ) := tabG [(49, (⟨i49, o49, c49⟩ : Ctr τ))]
def M46 (c49 : A49 → Option B49) : A46 → Option B46 := fun ⟨below', ⟨hi', ⟨lo', ()⟩⟩⟩ => (let v0 : Int := Int.fdiv hi' 9223372036854775808; bif v0 == 0 then (bif below' then (let v1 : Int := IntKind.wrap IntKind.i64 hi'; (c49 ((v1, lo'), ())).bind fun ⟨⟨y2_0, y2_1⟩, ⟨y2_2, ()⟩⟩ => (some ((y2_0, y2_1), (y2_2, ())))) else (let v1 : Int := IntKind.wrap IntKind.i64 hi'; some ((v1, lo'), (0, ())))) else (bif below' then (bif hi' == 9223372036854775808 then (bif lo' == 0 then (some ((-9223372036854775808, 0), (0, ()))) else (some ((0, 0), (10, ())))) else (some ((0, 0), (10, ())))) else (some ((0, 0), (10, ())))))
def N46 : A46 → Option B46 := M46 N49
def C46 : Ctr τ := ⟨i46, o46, N46⟩
theorem g46 : GOK κ Try.prog (G46 N49) := (gok_cons s49 gok_nil)
theorem lall46 : ∀ Z : Zn, Z.rl = C46.o.keeps → Try.f46.ntmps ≤ Z.nt → ∀ p ∈ loops 0 (bodyOf Try.f46), ∀ C, (tabL []) p.1 = some C → LoopOK κ Try.prog Z p.2 C := fun Z h n => fun p hp => (by cases (show p ∈ ([] : List (Nat × Code)) from hp))
theorem e46 : ∀ (c49 : A49 → Option B49) x, M46 c49 x = fnE Try.prog κ (G46 c49) (tabL []) Try.f46 i46 o46 x := fun c49 x => by kernel_rfl
theorem s46 : Sound κ Try.prog C46 46 := fn_sound (S := (tabL [])) (F := Try.f46) (code := bodyOf Try.f46) (by kernel_rfl) g46 Try.func46 (by kernel_rfl) (by kernel_rfl) (by kernel_rfl) lall46 (by kernel_rfl) (by kernel_rfl) fun x y h => (e46 N49 x).symm.trans h
end Go.Proofs.Ytnlajjeppdchiaa.E
namespace Go.Proofs.Ytnlajjeppdchiaa.E
open Go
set_option linter.unusedVariables false
set_option maxRecDepth 100000
abbrev A37 : Type := ((Int × Int) × (Int × Int) × Unit)
abbrev B37 : Type := ((Int × Int) × Int × Unit)
def i37 : Fr τ A37 := (.val 0 (.pair (.int .i64) (.int .u64)) (.val 1 (.pair (.int .i64) (.int .u64)) .nil))
def o37 : Fr τ B37 := (.val 1000 (.pair (.int .i64) (.int .u64)) (.val 1001 (.int .i64) .nil))
def G37 (c43 : A43 → Option B43) (c44 : A44 → Option B44) (c45 : A45 → Option B45) (c30 : (Int × Int × Int × Unit) → Option (Int × Int × Unit)) (c46 : A46 → Option B46) : Nat → Option (Ctr τ) := tabG [(43, (⟨i43, o43, c43⟩ : Ctr τ)), (44, (⟨i44, o44, c44⟩ : Ctr τ)), (45, (⟨i45, o45, c45⟩ : Ctr τ)), (30, ({ (cAdd64 (τ := τ)) with f := c30 } : Ctr τ)), (46, (⟨i46, o46, c46⟩ : Ctr τ))]
def M37 (c43 : A43 → Option B43) (c44 : A44 → Option B44) (c45 : A45 → Option B45) (c30 : (Int × Int × Int × Unit) → Option (Int × Int × Unit)) (c46 : A46 → Option B46) : A37 → Option B37 := fun ⟨⟨a'_0, a'_1⟩, ⟨⟨b'_0, b'_1⟩, ()⟩⟩ => ((c43 ((a'_0, a'_1), ())).bind fun ⟨y0_0, ⟨y0_1, ()⟩⟩ => ((c43 ((b'_0, b'_1), ())).bind fun ⟨y1_0, ⟨y1_1, ()⟩⟩ => (bif y0_0 != 0 then (bif y1_0 != 0 then (some ((0, 0), (10, ()))) else ((c44 (y0_1, (y1_1, ()))).bind fun ⟨y4_0, ⟨y4_1, ()⟩⟩ => ((c45 (y0_0 != 0, (y1_1, (y0_1, ())))).bind fun ⟨y5, ()⟩ => (let v0 : Int := ↑(BitVec.toNat (BitVec.ofInt 64 y0_0 ||| BitVec.ofInt 64 y1_0)); let v1 : Int := IntKind.wrap IntKind.u64 v0; (c44 (v1, (y5, ()))).bind fun ⟨y6_0, ⟨y6_1, ()⟩⟩ => ((c30 (y4_0, (y6_1, (0, ())))).bind fun ⟨y7_0, ⟨y7_1, ()⟩⟩ => (bif y6_0 != 0 then (some ((0, 0), (10, ()))) else (bif y7_1 != 0 then (some ((0, 0), (10, ()))) else ((c46 (!decide (a'_0 < 0) == decide (b'_0 < 0), (y7_0, (y4_1, ())))).bind fun ⟨⟨y10_0, y10_1⟩, ⟨y10_2, ()⟩⟩ => (some ((y10_0, y10_1), (y10_2, ()))))))))))) else ((c44 (y0_1, (y1_1, ()))).bind fun ⟨y3_0, ⟨y3_1, ()⟩⟩ => ((c45 (y0_0 != 0, (y1_1, (y0_1, ())))).bind fun ⟨y4, ()⟩ => (let v0 : Int := ↑(BitVec.toNat (BitVec.ofInt 64 y0_0 ||| BitVec.ofInt 64 y1_0)); let v1 : Int := IntKind.wrap IntKind.u64 v0; (c44 (v1, (y4, ()))).bind fun ⟨y5_0, ⟨y5_1, ()⟩⟩ => ((c30 (y3_0, (y5_1, (0, ())))).bind fun ⟨y6_0, ⟨y6_1, ()⟩⟩ => (bif y5_0 != 0 then (some ((0, 0), (10, ()))) else (bif y6_1 != 0 then (some ((0, 0), (10, ()))) else ((c46 (!decide (a'_0 < 0) == decide (b'_0 < 0), (y6_0, (y3_1, ())))).bind fun ⟨⟨y9_0, y9_1⟩, ⟨y9_2, ()⟩⟩ => (some ((y9_0, y9_1), (y9_2, ())))))))))))))
def N37 : A37 → Option B37 := M37 N43 N44 N45 (cAdd64 (τ := τ)).f N46
def C37 : Ctr τ := ⟨i37, o37, N37⟩
theorem t37_30 : Sound κ Try.prog cAdd64 30 := add64_sound Try.func30 (by kernel_rfl) (by kernel_rfl) (by kernel_rfl) (by kernel_rfl)
theorem g37 : GOK κ Try.prog (G37 N43 N44 N45 (cAdd64 (τ := τ)).f N46) := (gok_cons s43 (gok_cons s44 (gok_cons s45 (gok_cons t37_30 (gok_cons s46 gok_nil)))))
theorem lall37 : ∀ Z : Zn, Z.rl = C37.o.keeps → Try.f37.ntmps ≤ Z.nt → ∀ p ∈ loops 0 (bodyOf Try.f37), ∀ C, (tabL []) p.1 = some C → LoopOK κ Try.prog Z p.2 C := fun Z h n => fun p hp => (by cases (show p ∈ ([] : List (Nat × Code)) from hp))
theorem e37 : ∀ (c43 : A43 → Option B43) (c44 : A44 → Option B44) (c45 : A45 → Option B45) (c30 : (Int × Int × Int × Unit) → Option (Int × Int × Unit)) (c46 : A46 → Option B46) x, M37 c43 c44 c45 c30 c46 x = fnE Try.prog κ (G37 c43 c44 c45 c30 c46) (tabL []) Try.f37 i37 o37 x := fun c43 c44 c45 c30 c46 x => by kernel_rfl
theorem s37 : Sound κ Try.prog C37 37 := fn_sound (S := (tabL [])) (F := Try.f37) (code := bodyOf Try.f37) (by kernel_rfl) g37 Try.func37 (by kernel_rfl) (by kernel_rfl) (by kernel_rfl) lall37 (by kernel_rfl) (by kernel_rfl) fun x y h => (e37 N43 N44 N45 (cAdd64 (τ := τ)).f N46 x).symm.trans h
end Go.Proofs.Ytnlajjeppdchiaa.E
namespace Go.Proofs.Ytnlajjeppdchiaa.E
open Go
set_option linter.unusedVariables false
set_option maxRecDepth 100000
abbrev A38 : Type := (Int × Int × Unit)
abbrev B38 : Type := (Int × Unit)
def i38 : Fr τ A38 := (.val 0 (.int .i64) (.val 1 (.int .i64) .nil))
def o38 : Fr τ B38 := (.val 1000 (.int .i64) .nil)
def G38 : Nat → Option (Ctr τ) := tabG []
def M38 : A38 → Option B38 := fun ⟨q', ⟨size', ()⟩⟩ => ((bif !size' == 0 then some () else none).bind fun () => ((bif !size' == 0 then some () else none).bind fun () => (let v0 : Int := Int.tdiv q' size'; let v1 : Int := IntKind.wrap IntKind.i64 v0; let v2 : Int := Int.tmod q' size'; let v3 : Int := v1 + if 1 < v2 then 1 else v2; let v4 : Int := IntKind.wrap IntKind.i64 v3; some (v4, ()))))
def N38 : A38 → Option B38 := M38
def C38 : Ctr τ := ⟨i38, o38, N38⟩
theorem g38 : GOK κ Try.prog (G38) := gok_nil
theorem lall38 : ∀ Z : Zn, Z.rl = C38.o.keeps → Try.f38.ntmps ≤ Z.nt → ∀ p ∈ loops 0 (bodyOf Try.f38), ∀ C, (tabL []) p.1 = some C → LoopOK κ Try.prog Z p.2 C := fun Z h n => fun p hp => (by cases (show p ∈ ([] : List (Nat × Code)) from hp))
theorem e38 : ∀ x, M38 x = fnE Try.prog κ (G38) (tabL []) Try.f38 i38 o38 x := fun x => by kernel_rfl
theorem s38 : Sound κ Try.prog C38 38 := fn_sound (S := (tabL [])) (F := Try.f38) (code := bodyOf Try.f38) (by kernel_rfl) g38 Try.func38 (by kernel_rfl) (by kernel_rfl) (by kernel_rfl) lall38 (by kernel_rfl) (by kernel_rfl) fun x y h => (e38 x).symm.trans h
end Go.Proofs.Ytnlajjeppdchiaa.E
namespace Go.Proofs.Ytnlajjeppdchiaa.E
open Go
set_option linter.unusedVariables false
set_option maxRecDepth 100000
abbrev A39 : Type := ((Int × Int) × (Int × Int) × Unit)
abbrev B39 : Type := ((Int × Int) × Int × Unit)
def i39 : Fr τ A39 := (.val 0 (.pair (.int .i64) (.int .u64)) (.val 1 (.pair (.int .i64) (.int .u64)) .nil))
def o39 : Fr τ B39 := (.val 1000 (.pair (.int .i64) (.int .u64)) (.val 1001 (.int .i64) .nil))
def G39 (c30 : (Int × Int × Int × Unit) → Option (Int × Int × Unit)) : Nat → Option (Ctr τ) := tabG [(30, ({ (cAdd64 (τ := τ)) with f := c30 } : Ctr τ))]
def M39 (c30 : (Int × Int × Int × Unit) → Option (Int × Int × Unit)) : A39 → Option B39 := fun ⟨⟨a'_0, a'_1⟩, ⟨⟨b'_0, b'_1⟩, ()⟩⟩ => ((c30 (a'_1, (b'_1, (0, ())))).bind fun ⟨y0_0, ⟨y0_1, ()⟩⟩ => (let v0 : Int := IntKind.wrap IntKind.u64 a'_0; let v1 : Int := IntKind.wrap IntKind.u64 b'_0; (c30 (v0, (v1, (y0_1, ())))).bind fun ⟨y1_0, ⟨y1_1, ()⟩⟩ => (bif decide (a'_0 < 0) == decide (b'_0 < 0) then (let v2 : Int := IntKind.wrap IntKind.i64 y1_0; bif !decide (v2 < 0) == decide (a'_0 < 0) then (some ((0, 0), (10, ()))) else (some ((v2, y0_0), (0, ())))) else (let v2 : Int := IntKind.wrap IntKind.i64 y1_0; some ((v2, y0_0), (0, ()))))))
def N39 : A39 → Option B39 := M39 (cAdd64 (τ := τ)).f
def C39 : Ctr τ := ⟨i39, o39, N39⟩
theorem t39_30 : Sound κ Try.prog cAdd64 30 := add64_sound Try.func30 (by kernel_rfl) (by kernel_rfl) (by kernel_rfl) (by kernel_rfl)
theorem g39 : GOK κ Try.prog (G39 (cAdd64 (τ := τ)).f) := (gok_cons t39_30 gok_nil)
theorem lall39 : ∀ Z : Zn, Z.rl = C39.o.keeps → Try.f39.ntmps ≤ Z.nt → ∀ p ∈ loops 0 (bodyOf Try.f39), ∀ C, (tabL []) p.1 = some C → LoopOK κ Try.prog Z p.2 C := fun Z h n => fun p hp => (by cases (show p ∈ ([] : List (Nat × Code)) from hp))
theorem e39 : ∀ (c30 : (Int × Int × Int × Unit) → Option (Int × Int × Unit)) x, M39 c30 x = fnE Try.prog κ (G39 c30) (tabL []) Try.f39 i39 o39 x := fun c30 x => by kernel_rfl
theorem s39 : Sound κ Try.prog C39 39 := fn_sound (S := (tabL [])) (F := Try.f39) (code := bodyOf Try.f39) (by kernel_rfl) g39 Try.func39 (by kernel_rfl) (by kernel_rfl) (by kernel_rfl) lall39 (by kernel_rfl) (by kernel_rfl) fun x y h => (e39 (cAdd64 (τ := τ)).f x).symm.trans h
end Go.Proofs.Ytnlajjeppdchiaa.E
namespace Go.Proofs.Ytnlajjeppdchiaa.E
open Go
set_option linter.unusedVariables false
set_option maxRecDepth 100000
abbrev A29 : Type := (((Int × Int) × ((Int × Int) × (Int × Int))) × Int × Int × Unit)
abbrev B29 : Type := ((Int × Int) × Int × Unit)
def i29 : Fr τ A29 := (.val 0 (.pair (.pair (.int .i64) (.int .u64)) (.pair (.pair (.int .i64) (.int .u64)) (.pair (.int .i64) (.int .u64)))) (.val 1 (.int .i64) (.val 2 (.int .i64) .nil)))
def o29 : Fr τ B29 := (.val 1000 (.pair (.int .i64) (.int .u64)) (.val 1001 (.int .i64) .nil))
def G29 (c36 : A36 → Option B36) (c18 : A18 → Option B18) (c37 : A37 → Option B37) (c38 : A38 → Option B38) (c39 : A39 → Option B39) : Nat → Option (Ctr τ) := tabG [(36, (⟨i36, o36, c36⟩ : Ctr τ)), (18, (⟨i18, o18, c18⟩ : Ctr τ)), (37, (⟨i37, o37, c37⟩ : Ctr τ)), (38, (⟨i38, o38, c38⟩ : Ctr τ)), (39, (⟨i39, o39, c39⟩ : Ctr τ))]
def M29 (c36 : A36 → Option B36) (c18 : A18 → Option B18) (c37 : A37 → Option B37) (c38 : A38 → Option B38) (c39 : A39 → Option B39) : A29 → Option B29 := fun ⟨⟨⟨l'_0, l'_1⟩, ⟨⟨l'_2, l'_3⟩, ⟨l'_4, l'_5⟩⟩⟩, ⟨size', ⟨q', ()⟩⟩⟩ => ((c36 (size', (q', ()))).bind fun ⟨y0, ()⟩ => (bif !y0 then (some ((0, 0), (1, ()))) else ((c18 (q', ())).bind fun ⟨⟨y2_0, y2_1⟩, ()⟩ => ((c37 ((l'_2, l'_3), ((y2_0, y2_1), ()))).bind fun ⟨⟨y3_0, y3_1⟩, ⟨y3_2, ()⟩⟩ => (bif y3_2 != 0 then (some ((0, 0), (y3_2, ()))) else ((c38 (q', (size', ()))).bind fun ⟨y5, ()⟩ => ((c18 (y5, ())).bind fun ⟨⟨y6_0, y6_1⟩, ()⟩ => ((c37 ((l'_4, l'_5), ((y6_0, y6_1), ()))).bind fun ⟨⟨y7_0, y7_1⟩, ⟨y7_2, ()⟩⟩ => (bif y7_2 != 0 then (some ((0, 0), (y7_2, ()))) else ((c39 ((l'_0, l'_1), ((y3_0, y3_1), ()))).bind fun ⟨⟨y9_0, y9_1⟩, ⟨y9_2, ()⟩⟩ => (bif y9_2 != 0 then (some ((0, 0), (y9_2, ()))) else ((c39 ((y9_0, y9_1), ((y7_0, y7_1), ()))).bind fun ⟨⟨y11_0, y11_1⟩, ⟨y11_2, ()⟩⟩ => (some ((y11_0, y11_1), (y11_2, ())))))))))))))))
def N29 : A29 → Option B29 := M29 N36 N18 N37 N38 N39
def C29 : Ctr τ := ⟨i29, o29, N29⟩
theorem g29 : GOK κ Try.prog (G29 N36 N18 N37 N38 N39) := (gok_cons s36 (gok_cons s18 (gok_cons s37 (gok_cons s38 (gok_cons s39 gok_nil)))))
theorem lall29 : ∀ Z : Zn, Z.rl = C29.o.keeps → Try.f29.ntmps ≤ Z.nt → ∀ p ∈ loops 0 (bodyOf Try.f29), ∀ C, (tabL []) p.1 = some C → LoopOK κ Try.prog Z p.2 C := fun Z h n => fun p hp => (by cases (show p ∈ ([] : List (Nat × Code)) from hp))
theorem e29 : ∀ (c36 : A36 → Option B36) (c18 : A18 → Option B18) (c37 : A37 → Option B37) (c38 : A38 → Option B38) (c39 : A39 → Option B39) x, M29 c36 c18 c37 c38 c39 x = fnE Try.prog κ (G29 c36 c18 c37 c38 c39) (tabL []) Try.f29 i29 o29 x := fun c36 c18 c37 c38 c39 x => by kernel_rfl
theorem s29 : Sound κ Try.prog C29 29 := fn_sound (S := (tabL [])) (F := Try.f29) (code := bodyOf Try.f29) (by kernel_rfl) g29 Try.func29 (by kernel_rfl) (by kernel_rfl) (by kernel_rfl) lall29 (by kernel_rfl) (by kernel_rfl) fun x y h => (e29 N36 N18 N37 N38 N39 x).symm.trans h
end Go.Proofs.Ytnlajjeppdchiaa.E
namespace Go.Proofs.Ytnlajjeppdchiaa.E
open Go
set_option linter.unusedVariables false
set_option maxRecDepth 100000
abbrev A15 : Type := ((Int × (Int × (List T43))) × Int × Unit)
abbrev B15 : Type := ((Int × Int) × Int × Unit)
def i15 : Fr τ A15 := (.val 0 (.pair (.int .i64) (.pair (.int .i64) (.sl 43))) (.val 1 (.int .i64) .nil))
def o15 : Fr τ B15 := (.val 1000 (.pair (.int .i64) (.int .u64)) (.val 1001 (.int .i64) .nil))
def G15 (c14 : A14 → Option B14) (c27 : A27 → Option B27) (c28 : A28 → Option B28) (c29 : A29 → Option B29) : Nat → Option (Ctr τ) := tabG [(14, (⟨i14, o14, c14⟩ : Ctr τ)), (27, (⟨i27, o27, c27⟩ : Ctr τ)), (28, (⟨i28, o28, c28⟩ : Ctr τ)), (29, (⟨i29, o29, c29⟩ : Ctr τ))]
def M15 (c14 : A14 → Option B14) (c27 : A27 → Option B27) (c28 : A28 → Option B28) (c29 : A29 → Option B29) : A15 → Option B15 := fun ⟨⟨t'_0, ⟨t'_1, t'_2⟩⟩, ⟨q', ()⟩⟩ => ((c14 ((t'_0, (t'_1, t'_2)), ())).bind fun ⟨y0, ()⟩ => (bif !y0 then (some ((0, 0), (1, ()))) else (bif decide (q' < 0) then (some ((0, 0), (1, ()))) else (bif decide (q' > 1099511627776) then (some ((0, 0), (1, ()))) else ((c27 (t'_2, (q', ((), ())))).bind fun ⟨y4_0, ⟨y4_1, ()⟩⟩ => (bif !y4_1 then (let v0 : Int := y4_0 - 1; let v1 : Int := IntKind.wrap IntKind.i64 v0; (bif decide (0 ≤ v1) then t'_2[Int.toNat v1]? else none).bind fun ⟨y6_0, ⟨⟨y6_1, y6_2⟩, ⟨⟨y6_3, y6_4⟩, ⟨y6_5, y6_6⟩⟩⟩⟩ => ((c29 (((y6_1, y6_2), ((y6_3, y6_4), (y6_5, y6_6))), (t'_0, (q', ())))).bind fun ⟨⟨y7_0, y7_1⟩, ⟨y7_2, ()⟩⟩ => (some ((y7_0, y7_1), (y7_2, ()))))) else ((bif decide (0 ≤ y4_0) then t'_2[Int.toNat y4_0]? else none).bind fun ⟨y6_0, ⟨⟨y6_1, y6_2⟩, ⟨⟨y6_3, y6_4⟩, ⟨y6_5, y6_6⟩⟩⟩⟩ => ((c29 (((y6_1, y6_2), ((y6_3, y6_4), (y6_5, y6_6))), (t'_0, (q', ())))).bind fun ⟨⟨y7_0, y7_1⟩, ⟨y7_2, ()⟩⟩ => (some ((y7_0, y7_1), (y7_2, ())))))))))))
def N15 : A15 → Option B15 := M15 N14 N27 N28 N29
def C15 : Ctr τ := ⟨i15, o15, N15⟩
theorem g15 : GOK κ Try.prog (G15 N14 N27 N28 N29) := (gok_cons s14 (gok_cons s27 (gok_cons s28 (gok_cons s29 gok_nil))))
theorem lall15 : ∀ Z : Zn, Z.rl = C15.o.keeps → Try.f15.ntmps ≤ Z.nt → ∀ p ∈ loops 0 (bodyOf Try.f15), ∀ C, (tabL []) p.1 = some C → LoopOK κ Try.prog Z p.2 C := fun Z h n => fun p hp => (by cases (show p ∈ ([] : List (Nat × Code)) from hp))
theorem e15 : ∀ (c14 : A14 → Option B14) (c27 : A27 → Option B27) (c28 : A28 → Option B28) (c29 : A29 → Option B29) x, M15 c14 c27 c28 c29 x = fnE Try.prog κ (G15 c14 c27 c28 c29) (tabL []) Try.f15 i15 o15 x := fun c14 c27 c28 c29 x => by kernel_rfl
theorem s15 : Sound κ Try.prog C15 15 := fn_sound (S := (tabL [])) (F := Try.f15) (code := bodyOf Try.f15) (by kernel_rfl) g15 Try.func15 (by kernel_rfl) (by kernel_rfl) (by kernel_rfl) lall15 (by kernel_rfl) (by kernel_rfl) fun x y h => (e15 N14 N27 N28 N29 x).symm.trans h
end Go.Proofs.Ytnlajjeppdchiaa.E
namespace Go.Proofs.Ytnlajjeppdchiaa.E
open Go
set_option linter.unusedVariables false
set_option maxRecDepth 100000
abbrev A6 : Type := ((List T27) × (List T2) × Unit)
abbrev B6 : Type := (Bool × Unit)
def i6 : Fr τ A6 := (.val 0 (.sl 27) (.val 1 (.sl 2) .nil))
def o6 : Fr τ B6 := (.val 1000 .bool .nil)
def G6 (c7 : A7 → Option B7) (c8 : A8 → Option B8) (c9 : A9 → Option B9) (c14 : A14 → Option B14) (c15 : A15 → Option B15) (c16 : A16 → Option B16) : Nat → Option (Ctr τ) := tabG [(7, (⟨i7, o7, c7⟩ : Ctr τ)), (8, (⟨i8, o8, c8⟩ : Ctr τ)), (9, (⟨i9, o9, c9⟩ : Ctr τ)), (14, (⟨i14, o14, c14⟩ : Ctr τ)), (15, (⟨i15, o15, c15⟩ : Ctr τ)), (16, (⟨i16, o16, c16⟩ : Ctr τ))]
abbrev LA6_4 : Type := ((List T27) × (Int × (Int × ((List T43) × Unit))) × (List T2) × Int × (List T39) × Int × Unit)
abbrev LB6_4 : Type := ((List T27) × (Int × (Int × ((List T43) × Unit))) × (List T2) × Int × (List T39) × Unit)
def li6_4 : Fr τ LA6_4 := (.val 0 (.sl 27) (.ptr 5 none 27 (.val (.int .i64) (.val (.int .i64) (.val (.sl 43) .nil))) (.own 7 2 (.val 9 (.int .i64) (.own 10 39 (.val 11 (.int .i64) .nil))))))
def lo6_4 : Ot τ LB6_4 := .one (.exit 4) (.val 0 (.sl 27) (.ptr 5 none 27 (.val (.int .i64) (.val (.int .i64) (.val (.sl 43) .nil))) (.own 7 2 (.val 9 (.int .i64) (.own 10 39 .nil)))))
def Q6_4 (c7 : A7 → Option B7) (c8 : A8 → Option B8) (c9 : A9 → Option B9) (c14 : A14 → Option B14) (c15 : A15 → Option B15) (c16 : A16 → Option B16) : LA6_4 → Option (LA6_4 ⊕ LB6_4) := fun ⟨tables', ⟨⟨t'_0, ⟨t'_1, ⟨t'_2, ()⟩⟩⟩, ⟨all', ⟨i', ⟨l', ⟨k', ()⟩⟩⟩⟩⟩⟩ => (let v0 : Int := ↑(List.length tables'); bif decide (k' < v0) then ((bif decide (0 ≤ k') then tables'[Int.toNat k']? else none).bind fun ⟨y1_0, ⟨y1_1, y1_2⟩⟩ => (let v1 : Int := ↑(List.length all'); (bif decide (0 ≤ i') && decide (i' < v1) then some () else none).bind fun () => ((all'[Int.toNat i']?).bind fun y3 => ((c15 ((y1_0, (y1_1, y1_2)), (y3, ()))).bind fun ⟨⟨y4_0, y4_1⟩, ⟨y4_2, ()⟩⟩ => (bif y4_2 == 0 then ((bif decide ((List.length l' + 1) * 16 ≤ 210000000000000) then some () else none).bind fun () => (let v2 : Int := k' + 1; let v3 : Int := IntKind.wrap IntKind.i64 v2; some (.inl (tables', ((t'_0, (t'_1, (t'_2, ()))), (all', (i', (l' ++ [(y4_0, y4_1)], (v3, ()))))))))) else (let v2 : Int := k' + 1; let v3 : Int := IntKind.wrap IntKind.i64 v2; some (.inl (tables', ((t'_0, (t'_1, (t'_2, ()))), (all', (i', (l', (v3, ()))))))))))))) else (some (.inr (tables', ((t'_0, (t'_1, (t'_2, ()))), (all', (i', (l', ()))))))))
def R6_4 : LA6_4 → Option (LA6_4 ⊕ LB6_4) := Q6_4 N7 N8 N9 N14 N15 N16
def L6_4 : Lc τ := ⟨li6_4, itrs R6_4, lo6_4⟩
abbrev LA6_2 : Type := ((List T27) × (Int × (Int × ((List T43) × Unit))) × (List T2) × Int × Unit)
abbrev LB6_2 : Type := (Unit) ⊕ (Bool × Unit)
def li6_2 : Fr τ LA6_2 := (.val 0 (.sl 27) (.ptr 5 none 27 (.val (.int .i64) (.val (.int .i64) (.val (.sl 43) .nil))) (.own 7 2 (.val 9 (.int .i64) .nil))))
def lo6_2 : Ot τ LB6_2 := .alt (.exit 2) .nil (.one .ret (.val 4 .bool .nil))
def Q6_2 (c7 : A7 → Option B7) (c8 : A8 → Option B8) (c9 : A9 → Option B9) (c14 : A14 → Option B14) (c15 : A15 → Option B15) (c16 : A16 → Option B16) (l6_4 : LA6_4 → Option LB6_4) : LA6_2 → Option (LA6_2 ⊕ LB6_2) := fun ⟨tables', ⟨⟨t'_0, ⟨t'_1, ⟨t'_2, ()⟩⟩⟩, ⟨all', ⟨i', ()⟩⟩⟩⟩ => (let v0 : Int := ↑(List.length all'); bif decide (i' < v0) then (bif decide (i' < 600) then ((l6_4 (tables', ((t'_0, (t'_1, (t'_2, ()))), (all', (i', ([], (0, ()))))))).bind fun ⟨y2_0, ⟨⟨y2_1, ⟨y2_2, ⟨y2_3, ()⟩⟩⟩, ⟨y2_4, ⟨y2_5, ⟨y2_6, ()⟩⟩⟩⟩⟩ => ((c16 (y2_6, ())).bind fun ⟨⟨y3_0, y3_1⟩, ⟨y3_2, ()⟩⟩ => (let v1 : Int := ↑(List.length y2_4); (bif decide (0 ≤ y2_5) && decide (y2_5 < v1) then some () else none).bind fun () => ((y2_4[Int.toNat y2_5]?).bind fun y5 => ((c15 ((y2_1, (y2_2, y2_3)), (y5, ()))).bind fun ⟨⟨y6_0, y6_1⟩, ⟨y6_2, ()⟩⟩ => (let v2 : Int := ↑(List.length y2_6); let v3 : Int := ↑(List.length y2_0); bif v2 == v3 then (bif y3_2 == 0 then (bif y6_2 == 0 then (bif !(y6_0 == y3_0 && y6_1 == y3_1) then (some (.inr (.inr (false, ())))) else (let v4 : Int := y2_5 + 1; let v5 : Int := IntKind.wrap IntKind.i64 v4; some (.inl (y2_0, ((y2_1, (y2_2, (y2_3, ()))), (y2_4, (v5, ()))))))) else (let v4 : Int := y2_5 + 1; let v5 : Int := IntKind.wrap IntKind.i64 v4; some (.inl (y2_0, ((y2_1, (y2_2, (y2_3, ()))), (y2_4, (v5, ()))))))) else (let v4 : Int := y2_5 + 1; let v5 : Int := IntKind.wrap IntKind.i64 v4; some (.inl (y2_0, ((y2_1, (y2_2, (y2_3, ()))), (y2_4, (v5, ()))))))) else (let v4 : Int := y2_5 + 1; let v5 : Int := IntKind.wrap IntKind.i64 v4; some (.inl (y2_0, ((y2_1, (y2_2, (y2_3, ()))), (y2_4, (v5, ())))))))))))) else (some (.inr (.inl ())))) else (some (.inr (.inl ()))))
def R6_2 : LA6_2 → Option (LA6_2 ⊕ LB6_2) := Q6_2 N7 N8 N9 N14 N15 N16 (itrs R6_4)
def L6_2 : Lc τ := ⟨li6_2, itrs R6_2, lo6_2⟩
abbrev LA6_0 : Type := ((List T27) × (Int × (Int × ((List T43) × Unit))) × (List T2) × Int × Unit)
abbrev LB6_0 : Type := ((List T27) × (Int × (Int × ((List T43) × Unit))) × (List T2) × Unit)
def li6_0 : Fr τ LA6_0 := (.val 0 (.sl 27) (.ptr 5 none 27 (.val (.int .i64) (.val (.int .i64) (.val (.sl 43) .nil))) (.own 7 2 (.val 8 (.int .i64) .nil))))
def lo6_0 : Ot τ LB6_0 := .one (.exit 0) (.val 0 (.sl 27) (.ptr 5 none 27 (.val (.int .i64) (.val (.int .i64) (.val (.sl 43) .nil))) (.own 7 2 .nil)))
def Q6_0 (c7 : A7 → Option B7) (c8 : A8 → Option B8) (c9 : A9 → Option B9) (c14 : A14 → Option B14) (c15 : A15 → Option B15) (c16 : A16 → Option B16) : LA6_0 → Option (LA6_0 ⊕ LB6_0) := fun ⟨tables', ⟨⟨t'_0, ⟨t'_1, ⟨t'_2, ()⟩⟩⟩, ⟨all', ⟨i', ()⟩⟩⟩⟩ => (let v0 : Int := ↑(List.length t'_2); bif decide (i' < v0) then ((bif decide (0 ≤ i') then t'_2[Int.toNat i']? else none).bind fun ⟨y1_0, ⟨⟨y1_1, y1_2⟩, ⟨⟨y1_3, y1_4⟩, ⟨y1_5, y1_6⟩⟩⟩⟩ => ((bif decide (0 ≤ i') then t'_2[Int.toNat i']? else none).bind fun ⟨y2_0, ⟨⟨y2_1, y2_2⟩, ⟨⟨y2_3, y2_4⟩, ⟨y2_5, y2_6⟩⟩⟩⟩ => ((bif decide ((List.length all' + 2) * 8 ≤ 210000000000000) then some () else none).bind fun () => (let v1 : Int := y2_0 - 1; let v2 : Int := IntKind.wrap IntKind.i64 v1; let v3 : Int := i' + 1; let v4 : Int := IntKind.wrap IntKind.i64 v3; some (.inl (tables', ((t'_0, (t'_1, (t'_2, ()))), (all' ++ [y1_0, v2], (v4, ()))))))))) else (some (.inr (tables', ((t'_0, (t'_1, (t'_2, ()))), (all', ()))))))
def R6_0 : LA6_0 → Option (LA6_0 ⊕ LB6_0) := Q6_0 N7 N8 N9 N14 N15 N16
def L6_0 : Lc τ := ⟨li6_0, itrs R6_0, lo6_0⟩
def M6 (c7 : A7 → Option B7) (c8 : A8 → Option B8) (c9 : A9 → Option B9) (c14 : A14 → Option B14) (c15 : A15 → Option B15) (c16 : A16 → Option B16) (l6_0 : LA6_0 → Option LB6_0) (l6_2 : LA6_2 → Option LB6_2) : A6 → Option B6 := fun ⟨tables', ⟨list', ()⟩⟩ => ((c7 ()).bind fun ⟨y0, ()⟩ => (bif !y0 then (some (false, ())) else ((c8 (tables', ())).bind fun ⟨y2, ()⟩ => (bif decide (y2 > 4096) then (some (true, ())) else ((c9 (tables', ())).bind fun ⟨⟨y4_0, ⟨y4_1, y4_2⟩⟩, ⟨y4_3, ()⟩⟩ => (bif y4_3 != 0 then (let v0 : Int := ↑(List.length y4_2); some (v0 == 0, ())) else ((c14 ((y4_0, (y4_1, y4_2)), ())).bind fun ⟨y6, ()⟩ => (bif !y6 then (some (false, ())) else (let v0 : Int := ↑(List.length tables'); bif v0 == 0 then (some (false, ())) else ((tables'[0]?).bind fun ⟨y9_0, ⟨y9_1, y9_2⟩⟩ => (bif y4_0 != y9_0 then (some (false, ())) else ((tables'[0]?).bind fun ⟨y11_0, ⟨y11_1, y11_2⟩⟩ => (bif y4_1 != y11_1 then (some (false, ())) else ((bif decide ((2 + List.length list') * 8 ≤ 210000000000000) then some () else none).bind fun () => ((l6_0 (tables', ((y4_0, (y4_1, (y4_2, ()))), ([0, 1099511627776] ++ list', (0, ()))))).bind fun ⟨y14_0, ⟨⟨y14_1, ⟨y14_2, ⟨y14_3, ()⟩⟩⟩, ⟨y14_4, ()⟩⟩⟩ => ((l6_2 (y14_0, ((y14_1, (y14_2, (y14_3, ()))), (y14_4, (0, ()))))).bind fun y15 => (match y15 with | .inl () => (some (true, ())) | .inr ⟨y16, ()⟩ => (some (y16, ())))))))))))))))))))
def N6 : A6 → Option B6 := M6 N7 N8 N9 N14 N15 N16 (itrs R6_0) (itrs R6_2)
def C6 : Ctr τ := ⟨i6, o6, N6⟩
theorem g6 : GOK κ Try.prog (G6 N7 N8 N9 N14 N15 N16) := (gok_cons s7 (gok_cons s8 (gok_cons s9 (gok_cons s14 (gok_cons s15 (gok_cons s16 gok_nil))))))
theorem le6_4 : ∀ (c7 : A7 → Option B7) (c8 : A8 → Option B8) (c9 : A9 → Option B9) (c14 : A14 → Option B14) (c15 : A15 → Option B15) (c16 : A16 → Option B16) x, Q6_4 c7 c8 c9 c14 c15 c16 x = run Try.prog κ (G6 c7 c8 c9 c14 c15 c16) (tabL []) 4 (loopAt Try.f6 2) (li6_4.build x) (rnd li6_4 lo6_4) := fun c7 c8 c9 c14 c15 c16 x => by kernel_rfl
theorem le6_2 : ∀ (c7 : A7 → Option B7) (c8 : A8 → Option B8) (c9 : A9 → Option B9) (c14 : A14 → Option B14) (c15 : A15 → Option B15) (c16 : A16 → Option B16) (l6_4 : LA6_4 → Option LB6_4) x, Q6_2 c7 c8 c9 c14 c15 c16 l6_4 x = run Try.prog κ (G6 c7 c8 c9 c14 c15 c16) (tabL [(4, (⟨li6_4, l6_4, lo6_4⟩ : Lc τ))]) 2 (loopAt Try.f6 1) (li6_2.build x) (rnd li6_2 lo6_2) := fun c7 c8 c9 c14 c15 c16 l6_4 x => by kernel_rfl
theorem le6_0 : ∀ (c7 : A7 → Option B7) (c8 : A8 → Option B8) (c9 : A9 → Option B9) (c14 : A14 → Option B14) (c15 : A15 → Option B15) (c16 : A16 → Option B16) x, Q6_0 c7 c8 c9 c14 c15 c16 x = run Try.prog κ (G6 c7 c8 c9 c14 c15 c16) (tabL []) 0 (loopAt Try.f6 0) (li6_0.build x) (rnd li6_0 lo6_0) := fun c7 c8 c9 c14 c15 c16 x => by kernel_rfl
theorem linner6_4 : ∀ Z : Zn, Z.rl = [] → 152 ≤ Z.nt → ∀ p ∈ loops 4 (loopAt Try.f6 2), ∀ C, (tabL []) p.1 = some C → LoopOK κ Try.prog Z p.2 C := fun Z h n => fun p hp => (by cases (show p ∈ ([] : List (Nat × Code)) from hp))
theorem lk6_4 : ∀ Z : Zn, Z.rl = [] → 152 ≤ Z.nt → LoopOK κ Try.prog Z (loopAt Try.f6 2) L6_4 := fun Z h n => loop_ok (S := (tabL [])) R6_4 (by kernel_rfl) g6 (by rw [h]; exact dsts_mono n _ (by kernel_rfl)) (linner6_4 Z h n) (by kernel_rfl) (by kernel_rfl) (le6_4 N7 N8 N9 N14 N15 N16) itrs_rounds
theorem linner6_2 : ∀ Z : Zn, Z.rl = [] → 152 ≤ Z.nt → ∀ p ∈ loops 2 (loopAt Try.f6 1), ∀ C, (tabL [(4, L6_4)]) p.1 = some C → LoopOK κ Try.prog Z p.2 C := fun Z h n => all_loops [(4, loopAt Try.f6 2)] (by kernel_rfl) (all_cons (fun C hC => (Option.some.inj hC : L6_4 = C) ▸ lk6_4 Z h n) (fun _ h => by cases h))
theorem lk6_2 : ∀ Z : Zn, Z.rl = [] → 152 ≤ Z.nt → LoopOK κ Try.prog Z (loopAt Try.f6 1) L6_2 := fun Z h n => loop_ok (S := (tabL [(4, L6_4)])) R6_2 (by kernel_rfl) g6 (by rw [h]; exact dsts_mono n _ (by kernel_rfl)) (linner6_2 Z h n) (by kernel_rfl) (by kernel_rfl) (le6_2 N7 N8 N9 N14 N15 N16 (itrs R6_4)) itrs_rounds
theorem linner6_0 : ∀ Z : Zn, Z.rl = [] → 152 ≤ Z.nt → ∀ p ∈ loops 0 (loopAt Try.f6 0), ∀ C, (tabL []) p.1 = some C → LoopOK κ Try.prog Z p.2 C := fun Z h n => fun p hp => (by cases (show p ∈ ([] : List (Nat × Code)) from hp))
theorem lk6_0 : ∀ Z : Zn, Z.rl = [] → 152 ≤ Z.nt → LoopOK κ Try.prog Z (loopAt Try.f6 0) L6_0 := fun Z h n => loop_ok (S := (tabL [])) R6_0 (by kernel_rfl) g6 (by rw [h]; exact dsts_mono n _ (by kernel_rfl)) (linner6_0 Z h n) (by kernel_rfl) (by kernel_rfl) (le6_0 N7 N8 N9 N14 N15 N16) itrs_rounds
theorem lall6 : ∀ Z : Zn, Z.rl = C6.o.keeps → Try.f6.ntmps ≤ Z.nt → ∀ p ∈ loops 0 (bodyOf Try.f6), ∀ C, (tabL [(0, L6_0), (2, L6_2)]) p.1 = some C → LoopOK κ Try.prog Z p.2 C := fun Z h n => all_loops [(0, loopAt Try.f6 0), (2, loopAt Try.f6 1), (4, loopAt Try.f6 2)] (by kernel_rfl) (all_cons (fun C hC => (Option.some.inj hC : L6_0 = C) ▸ lk6_0 Z h n) (all_cons (fun C hC => (Option.some.inj hC : L6_2 = C) ▸ lk6_2 Z h n) (all_cons (fun C hC => by cases hC) (fun _ h => by cases h))))
theorem e6 : ∀ (c7 : A7 → Option B7) (c8 : A8 → Option B8) (c9 : A9 → Option B9) (c14 : A14 → Option B14) (c15 : A15 → Option B15) (c16 : A16 → Option B16) (l6_0 : LA6_0 → Option LB6_0) (l6_2 : LA6_2 → Option LB6_2) x, M6 c7 c8 c9 c14 c15 c16 l6_0 l6_2 x = fnE Try.prog κ (G6 c7 c8 c9 c14 c15 c16) (tabL [(0, (⟨li6_0, l6_0, lo6_0⟩ : Lc τ)), (2, (⟨li6_2, l6_2, lo6_2⟩ : Lc τ))]) Try.f6 i6 o6 x := fun c7 c8 c9 c14 c15 c16 l6_0 l6_2 x => by kernel_rfl
theorem s6 : Sound κ Try.prog C6 6 := fn_sound (S := (tabL [(0, L6_0), (2, L6_2)])) (F := Try.f6) (code := bodyOf Try.f6) (by kernel_rfl) g6 Try.func6 (by kernel_rfl) (by kernel_rfl) (by kernel_rfl) lall6 (by kernel_rfl) (by kernel_rfl) fun x y h => (e6 N7 N8 N9 N14 N15 N16 (itrs R6_0) (itrs R6_2) x).symm.trans h
end Go.Proofs.Ytnlajjeppdchiaa.E
