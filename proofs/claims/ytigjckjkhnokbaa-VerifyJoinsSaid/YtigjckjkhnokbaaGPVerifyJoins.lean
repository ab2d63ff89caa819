/- The statement VerifyJoins for every input: the plain facts on the functions' results, and the row. No condition. -/
import Derived.Test.YtigjckjkhnokbaaGF0
import Derived.Test.YtigjckjkhnokbaaGE1
import Derived.Laws.BitsAllLaws
import Derived.Test.YtigjckjkhnokbaaRows
import Derived.Test.YtigjckjkhnokbaaChecked
namespace Go.Proofs.Ytigjckjkhnokbaa.E
open Go
def W66 (a : (Int × Int)) : Prop := (-9223372036854775808 ≤ a.1 ∧ a.1 ≤ 9223372036854775807) ∧ (0 ≤ a.2 ∧ a.2 ≤ 18446744073709551615)
def W69 (a : (Int × Int)) : Prop := (-9223372036854775808 ≤ a.1 ∧ a.1 ≤ 9223372036854775807) ∧ (-9223372036854775808 ≤ a.2 ∧ a.2 ≤ 9223372036854775807)
def W42 (a : (Int × (Int × Int))) : Prop := (-9223372036854775808 ≤ a.1 ∧ a.1 ≤ 9223372036854775807) ∧ (-9223372036854775808 ≤ a.2.1 ∧ a.2.1 ≤ 9223372036854775807) ∧ (-9223372036854775808 ≤ a.2.2 ∧ a.2.2 ≤ 9223372036854775807)
def W35 (a : (Int × (Int × ((List Int) × ((List (Int × Int)) × ((List (List (Int × Int))) × (List (Int × (Int × Int))))))))) : Prop := (-9223372036854775808 ≤ a.1 ∧ a.1 ≤ 9223372036854775807) ∧ (-9223372036854775808 ≤ a.2.1 ∧ a.2.1 ≤ 9223372036854775807) ∧ (List.length a.2.2.1 * Program.bytesOf Try.prog 2 ≤ 140737488351232 ∧ ∀ x ∈ a.2.2.1, (-9223372036854775808 ≤ x ∧ x ≤ 9223372036854775807)) ∧ (List.length a.2.2.2.1 * Program.bytesOf Try.prog 66 ≤ 140737488351232 ∧ ∀ x ∈ a.2.2.2.1, W66 x) ∧ (List.length a.2.2.2.2.1 * Program.bytesOf Try.prog 67 ≤ 140737488351232 ∧ ∀ x ∈ a.2.2.2.2.1, (List.length x * Program.bytesOf Try.prog 69 ≤ 140737488351232 ∧ ∀ x' ∈ x, W69 x')) ∧ (List.length a.2.2.2.2.2 * Program.bytesOf Try.prog 42 ≤ 140737488351232 ∧ ∀ x ∈ a.2.2.2.2.2, W42 x)
def PVerifyJoins : Prop := ∀ (a0 : (Int × (Int × ((List Int) × ((List (Int × Int)) × ((List (List (Int × Int))) × (List (Int × (Int × Int))))))))) (a1 : (Int × (Int × ((List Int) × ((List (Int × Int)) × ((List (List (Int × Int))) × (List (Int × (Int × Int))))))))) (a2 : Int), W35 a0 → W35 a1 → (-9223372036854775808 ≤ a2 ∧ a2 ≤ 9223372036854775807) → N6 (a0, a1, a2, ()) = some (true, ())
end Go.Proofs.Ytigjckjkhnokbaa.E
namespace Go.Proofs.Ytigjckjkhnokbaa.E
open Go
set_option linter.unusedVariables false
set_option maxRecDepth 100000
/-! ### tables -/
def badTier (l : List (Int × Int)) (j : Nat) : Bool :=
  (decide (0 < j) && decide ((l.getD j (0, 0)).1 ≤ (l.getD (j - 1) (0, 0)).1)) || decide ((l.getD j (0, 0)).1 > 1000000000000) || decide ((l.getD j (0, 0)).2 < -1000000000000) || decide ((l.getD j (0, 0)).2 > 1000000000000)
def tiersOk (l : List (Int × Int)) : Bool :=
  bif decide ((l.length : Int) < 1) then false else bif decide ((l.length : Int) > 16) then false else bif (l.getD 0 (0, 0)).1 != 0 then false else !((List.range' 0 l.length).any (badTier l))
theorem getD_at {γ : Type} {l : List γ} {j : Nat} {z : γ} (h : j < l.length) : l.getD j z = l[j] := by
  rw [List.getD_eq_getElem?_getD, List.getElem?_eq_getElem h]
  rfl
theorem eright {l : List (Int × Int)} (hl : l.length ≤ 140737488355328) : N30 (l, ()) = some (tiersOk l, ()) := by
  unfold N30 M30 tiersOk
  simp only []
  cases h1 : decide ((l.length : Int) < 1) with
  | true => rfl
  | false =>
  cases h2 : decide ((l.length : Int) > 16) with
  | true => rfl
  | false =>
  have h1 := of_decide_eq_false h1
  have hp : 0 < l.length := by omega
  simp only [cond_false]
  rw [List.getElem?_eq_getElem hp, getD_at hp]
  simp only [Option.bind_some]
  cases h3 : (l[0].1 != 0) with
  | true => rfl
  | false =>
  simp only [cond_false]
  have := itrs_any (ro := R30_0) (fun j => (l, l, (l.length : Int), (j : Int), ())) (badTier l) (.inr (false, ())) (.inl ()) l.length (x := (l, l, (l.length : Int), 0, ())) rfl (fun j hj => by
    unfold R30_0 Q30_0
    simp only []
    rw [bif_t (decide_eq_true (show (j : Int) < (l.length : Int) by omega)), at_get hj]
    simp only [Option.bind_some]
    rw [wsi (n := (j : Int) + 1) (by omega)]
    unfold badTier
    rw [getD_at hj]
    by_cases h0 : 0 < j
    · rw [bif_t (decide_eq_true (show (j : Int) > 0 by omega)), wsi (n := (j : Int) - 1) (by omega), show (j : Int) - 1 = ((j - 1 : Nat) : Int) from by omega, at_get (show j - 1 < l.length by omega), getD_at (show j - 1 < l.length by omega), decide_eq_true h0]
      simp only [Option.bind_some, Bool.true_and, show (j : Int) + 1 = ((j + 1 : Nat) : Int) from by omega]
      cases decide (l[j].1 ≤ l[j - 1].1) <;> cases decide (l[j].1 > 1000000000000) <;> cases decide (l[j].2 < -1000000000000) <;> cases decide (l[j].2 > 1000000000000) <;> rfl
    · rw [bif_f (decide_eq_false (show ¬ (j : Int) > 0 by omega)), decide_eq_false h0]
      simp only [Bool.false_and, Bool.false_or, show (j : Int) + 1 = ((j + 1 : Nat) : Int) from by omega]
      cases decide (l[j].1 > 1000000000000) <;> cases decide (l[j].2 < -1000000000000) <;> cases decide (l[j].2 > 1000000000000) <;> rfl) (by
    unfold R30_0 Q30_0
    simp only []
    rw [bif_f (decide_eq_false (by omega))]) (by omega)
  rw [this]
  cases (List.range' 0 l.length).any (badTier l) <;> rfl
theorem rTiers {l : List (Int × Int)} (hl : l.length ≤ 140737488355328) : N31 (l, ()) = some (tiersOk l, ()) := by
  unfold N31 M31 tiersOk
  simp only []
  by_cases h1 : l.length = 0
  · rw [bif_t (show ((l.length : Int) == 0) = true from by simp [h1]), bif_t (decide_eq_true (by omega))]
  rw [bif_f (show ((l.length : Int) == 0) = false from by simp; intro e; rw [e] at h1; simp at h1), bif_f (decide_eq_false (show ¬ (l.length : Int) < 1 by omega))]
  cases h2 : decide ((l.length : Int) > 16) with
  | true => rfl
  | false =>
  have hp : 0 < l.length := by omega
  simp only [cond_false]
  rw [List.getElem?_eq_getElem hp, getD_at hp]
  simp only [Option.bind_some]
  cases h3 : (l[0].1 != 0) with
  | true => rfl
  | false =>
  simp only [cond_false]
  have := itrs_any (ro := R31_0) (fun j => (l, (j : Int), ())) (badTier l) (.inr (false, ())) (.inl ()) l.length (x := (l, 0, ())) rfl (fun j hj => by
    unfold R31_0 Q31_0
    simp only []
    rw [bif_t (decide_eq_true (show (j : Int) < (l.length : Int) by omega)), at_get hj]
    simp only [Option.bind_some]
    rw [wsi (n := (j : Int) + 1) (by omega)]
    unfold badTier
    rw [getD_at hj]
    by_cases h0 : 0 < j
    · rw [bif_t (decide_eq_true (show (j : Int) > 0 by omega)), wsi (n := (j : Int) - 1) (by omega), show (j : Int) - 1 = ((j - 1 : Nat) : Int) from by omega, at_get (show j - 1 < l.length by omega), getD_at (show j - 1 < l.length by omega), decide_eq_true h0]
      simp only [Option.bind_some, Bool.true_and, show (j : Int) + 1 = ((j + 1 : Nat) : Int) from by omega, ge_iff_le]
      cases decide (l[j].1 ≤ l[j - 1].1) <;> cases decide (l[j].1 > 1000000000000) <;> cases decide (l[j].2 < -1000000000000) <;> cases decide (l[j].2 > 1000000000000) <;> rfl
    · rw [bif_f (decide_eq_false (show ¬ (j : Int) > 0 by omega)), decide_eq_false h0]
      simp only [Bool.false_and, Bool.false_or, show (j : Int) + 1 = ((j + 1 : Nat) : Int) from by omega]
      cases decide (l[j].1 > 1000000000000) <;> cases decide (l[j].2 < -1000000000000) <;> cases decide (l[j].2 > 1000000000000) <;> rfl) (by
    unfold R31_0 Q31_0
    simp only []
    rw [bif_f (decide_eq_false (by omega))]) (by omega)
  rw [this]
  cases (List.range' 0 l.length).any (badTier l) <;> rfl
/-! ### checks -/
abbrev Prg : Type := Int × Int × List Int × List (Int × Int) × List (List (Int × Int)) × List (Int × Int × Int)
def badSize (x : Int) : Bool := decide (x < 1) || decide (x > 1000000000000)
def badInstr (c : Int × Int × Int) : Bool := decide (c.1 < 0) || decide (c.1 > 255) || decide (c.2.1 < 0) || decide (c.2.1 > 65535) || decide (c.2.2 < 0) || decide (c.2.2 > 65535)
/-- Why a program has no bytes; 0 if it has. -/
def chk (p : Prg) : Int :=
  bif decide (p.1 < 0) then 1 else bif decide (p.1 > 4) then 1 else bif decide (p.2.1 < 0) then 1 else bif decide (p.2.1 > 6) then 1 else bif decide ((p.2.2.1.length : Int) < 1) then 1 else bif decide ((p.2.2.1.length : Int) > 4) then 1 else
  bif (List.range' 0 p.2.2.1.length).any (fun j => badSize (p.2.2.1.getD j 0)) then 1 else
  bif decide ((p.2.2.2.1.length : Int) > 1024) then 2 else bif decide ((p.2.2.2.2.1.length : Int) > 1024) then 2 else bif decide ((p.2.2.2.2.2.length : Int) > 8192) then 2 else
  bif (List.range' 0 p.2.2.2.2.1.length).any (fun j => !tiersOk (p.2.2.2.2.1.getD j [])) then 51 else
  bif (List.range' 0 p.2.2.2.2.2.length).any (fun j => badInstr (p.2.2.2.2.2.getD j (0, 0, 0))) then 170 else 0
/-- What the reader of arguments knows of a program's lists. -/
structure Small (p : Prg) : Prop where
  a : p.2.2.1.length ≤ 140737488355328
  b : p.2.2.2.1.length ≤ 140737488355328
  c : p.2.2.2.2.1.length ≤ 140737488355328
  d : p.2.2.2.2.2.length ≤ 140737488355328
  e : ∀ l ∈ p.2.2.2.2.1, l.length ≤ 140737488355328
theorem echeck {p : Prg} (hp : Small p) : N19 (p, ()) = some (chk p, ()) := by
  obtain ⟨mode, scale, sizes, consts, scales, code⟩ := p
  obtain ⟨pa, pb, pc, pd, pe⟩ := hp
  simp only at pa pb pc pd pe
  unfold N19 M19 chk
  simp only []
  cases decide (mode < 0)
  rotate_left
  · rfl
  cases decide (mode > 4)
  rotate_left
  · rfl
  cases decide (scale < 0)
  rotate_left
  · rfl
  cases decide (scale > 6)
  rotate_left
  · rfl
  cases decide ((sizes.length : Int) < 1)
  rotate_left
  · rfl
  cases decide ((sizes.length : Int) > 4)
  rotate_left
  · rfl
  simp only [cond_false]
  have L0 := itrs_any (ro := R19_0) (fun j => ((mode, scale, sizes, consts, scales, code, ()), sizes, (sizes.length : Int), (j : Int), ())) (fun j => badSize (sizes.getD j 0)) (.inr (1, ())) (.inl ((mode, scale, sizes, consts, scales, code, ()), ())) sizes.length (x := ((mode, scale, sizes, consts, scales, code, ()), sizes, (sizes.length : Int), 0, ())) rfl (fun j hj => by
    unfold R19_0 Q19_0 badSize
    simp only []
    rw [bif_t (decide_eq_true (show (j : Int) < (sizes.length : Int) by omega)), at_get hj, getD_at hj]
    simp only [Option.bind_some]
    rw [wsi (n := (j : Int) + 1) (by omega)]
    simp only [show (j : Int) + 1 = ((j + 1 : Nat) : Int) from by omega]
    cases decide (sizes[j] < 1) <;> cases decide (sizes[j] > 1000000000000) <;> rfl) (by
    unfold R19_0 Q19_0
    simp only []
    rw [bif_f (decide_eq_false (by omega))]) (by omega)
  rw [L0]
  cases (List.range' 0 sizes.length).any (fun j => badSize (sizes.getD j 0))
  rotate_left
  · rfl
  simp only [cond_false, Option.bind_some]
  cases decide ((consts.length : Int) > 1024)
  rotate_left
  · rfl
  cases decide ((scales.length : Int) > 1024)
  rotate_left
  · rfl
  cases decide ((code.length : Int) > 8192)
  rotate_left
  · rfl
  simp only [cond_false]
  have L2 := itrs_any (ro := R19_2) (fun j => ((mode, scale, sizes, consts, scales, code, ()), scales, (scales.length : Int), (j : Int), ())) (fun j => !tiersOk (scales.getD j [])) (.inr (51, ())) (.inl ((mode, scale, sizes, consts, scales, code, ()), ())) scales.length (x := ((mode, scale, sizes, consts, scales, code, ()), scales, (scales.length : Int), 0, ())) rfl (fun j hj => by
    unfold R19_2 Q19_2
    simp only []
    rw [bif_t (decide_eq_true (show (j : Int) < (scales.length : Int) by omega)), at_get hj, getD_at hj]
    simp only [Option.bind_some]
    rw [eright (pe _ (List.getElem_mem hj))]
    simp only [Option.bind_some]
    rw [wsi (n := (j : Int) + 1) (by omega)]
    simp only [show (j : Int) + 1 = ((j + 1 : Nat) : Int) from by omega]) (by
    unfold R19_2 Q19_2
    simp only []
    rw [bif_f (decide_eq_false (by omega))]) (by omega)
  rw [L2]
  cases (List.range' 0 scales.length).any (fun j => !tiersOk (scales.getD j []))
  rotate_left
  · rfl
  simp only [cond_false, Option.bind_some]
  have L4 := itrs_any (ro := R19_4) (fun j => (code, (code.length : Int), (j : Int), ())) (fun j => badInstr (code.getD j (0, 0, 0))) (.inr (170, ())) (.inl ()) code.length (x := (code, (code.length : Int), 0, ())) rfl (fun j hj => by
    unfold R19_4 Q19_4 badInstr
    simp only []
    rw [bif_t (decide_eq_true (show (j : Int) < (code.length : Int) by omega)), at_get hj, getD_at hj]
    simp only [Option.bind_some]
    rw [wsi (n := (j : Int) + 1) (by omega)]
    simp only [show (j : Int) + 1 = ((j + 1 : Nat) : Int) from by omega]
    cases decide (code[j].1 < 0)
    rotate_left
    · rfl
    cases decide (code[j].1 > 255)
    rotate_left
    · rfl
    cases decide (code[j].2.1 < 0)
    rotate_left
    · rfl
    cases decide (code[j].2.1 > 65535)
    rotate_left
    · rfl
    cases decide (code[j].2.2 < 0) <;> cases decide (code[j].2.2 > 65535) <;> rfl) (by
    unfold R19_4 Q19_4
    simp only []
    rw [bif_f (decide_eq_false (by omega))]) (by omega)
  rw [L4]
  cases (List.range' 0 code.length).any (fun j => badInstr (code.getD j (0, 0, 0))) <;> rfl
theorem rCheck {p : Prg} (hp : Small p) : N27 (p, ()) = some (chk p, ()) := by
  obtain ⟨mode, scale, sizes, consts, scales, code⟩ := p
  obtain ⟨pa, pb, pc, pd, pe⟩ := hp
  simp only at pa pb pc pd pe
  unfold N27 M27 chk
  simp only []
  cases decide (mode < 0)
  rotate_left
  · rfl
  cases decide (mode > 4)
  rotate_left
  · rfl
  cases decide (scale < 0)
  rotate_left
  · rfl
  cases decide (scale > 6)
  rotate_left
  · rfl
  simp only [cond_false]
  rw [show ((sizes.length : Int) == 0) = decide ((sizes.length : Int) < 1) from by rw [Bool.eq_iff_iff]; simp only [beq_iff_eq, decide_eq_true_eq]; omega]
  cases decide ((sizes.length : Int) < 1)
  rotate_left
  · rfl
  cases decide ((sizes.length : Int) > 4)
  rotate_left
  · rfl
  simp only [cond_false]
  have L0 := itrs_any (ro := R27_0) (fun j => ((mode, scale, sizes, consts, scales, code, ()), (j : Int), ())) (fun j => badSize (sizes.getD j 0)) (.inr (1, ())) (.inl ((mode, scale, sizes, consts, scales, code, ()), ())) sizes.length (x := ((mode, scale, sizes, consts, scales, code, ()), 0, ())) rfl (fun j hj => by
    unfold R27_0 Q27_0 badSize
    simp only []
    rw [bif_t (decide_eq_true (show (j : Int) < (sizes.length : Int) by omega)), at_get hj, getD_at hj]
    simp only [Option.bind_some]
    rw [wsi (n := (j : Int) + 1) (by omega)]
    simp only [show (j : Int) + 1 = ((j + 1 : Nat) : Int) from by omega]
    cases decide (sizes[j] < 1) <;> cases decide (sizes[j] > 1000000000000) <;> rfl) (by
    unfold R27_0 Q27_0
    simp only []
    rw [bif_f (decide_eq_false (by omega))]) (by omega)
  rw [L0]
  cases (List.range' 0 sizes.length).any (fun j => badSize (sizes.getD j 0))
  rotate_left
  · rfl
  simp only [cond_false, Option.bind_some]
  cases decide ((consts.length : Int) > 1024)
  rotate_left
  · rfl
  cases decide ((scales.length : Int) > 1024)
  rotate_left
  · rfl
  cases decide ((code.length : Int) > 8192)
  rotate_left
  · rfl
  simp only [cond_false]
  have L2 := itrs_any (ro := R27_2) (fun j => ((mode, scale, sizes, consts, scales, code, ()), (j : Int), ())) (fun j => !tiersOk (scales.getD j [])) (.inr (51, ())) (.inl ((mode, scale, sizes, consts, scales, code, ()), ())) scales.length (x := ((mode, scale, sizes, consts, scales, code, ()), 0, ())) rfl (fun j hj => by
    unfold R27_2 Q27_2
    simp only []
    rw [bif_t (decide_eq_true (show (j : Int) < (scales.length : Int) by omega)), at_get hj, getD_at hj]
    simp only [Option.bind_some]
    rw [rTiers (pe _ (List.getElem_mem hj))]
    simp only [Option.bind_some]
    rw [wsi (n := (j : Int) + 1) (by omega)]
    simp only [show (j : Int) + 1 = ((j + 1 : Nat) : Int) from by omega]) (by
    unfold R27_2 Q27_2
    simp only []
    rw [bif_f (decide_eq_false (by omega))]) (by omega)
  rw [L2]
  cases (List.range' 0 scales.length).any (fun j => !tiersOk (scales.getD j []))
  rotate_left
  · rfl
  simp only [cond_false, Option.bind_some]
  have L4 := itrs_any (ro := R27_4) (fun j => ((mode, scale, sizes, consts, scales, code, ()), (j : Int), ())) (fun j => badInstr (code.getD j (0, 0, 0))) (.inr (170, ())) (.inl ()) code.length (x := ((mode, scale, sizes, consts, scales, code, ()), 0, ())) rfl (fun j hj => by
    unfold R27_4 Q27_4 badInstr
    simp only []
    rw [bif_t (decide_eq_true (show (j : Int) < (code.length : Int) by omega)), at_get hj, getD_at hj]
    simp only [Option.bind_some]
    rw [wsi (n := (j : Int) + 1) (by omega)]
    simp only [show (j : Int) + 1 = ((j + 1 : Nat) : Int) from by omega]
    cases decide (code[j].1 < 0)
    rotate_left
    · rfl
    cases decide (code[j].1 > 255)
    rotate_left
    · rfl
    cases decide (code[j].2.1 < 0)
    rotate_left
    · rfl
    cases decide (code[j].2.1 > 65535)
    rotate_left
    · rfl
    cases decide (code[j].2.2 < 0) <;> cases decide (code[j].2.2 > 65535) <;> rfl) (by
    unfold R27_4 Q27_4
    simp only []
    rw [bif_f (decide_eq_false (by omega))]) (by omega)
  rw [L4]
  cases (List.range' 0 code.length).any (fun j => badInstr (code.getD j (0, 0, 0))) <;> rfl
end Go.Proofs.Ytigjckjkhnokbaa.E
namespace Go.Proofs.Ytigjckjkhnokbaa.E
open Go
set_option linter.unusedVariables false
set_option maxRecDepth 100000
/-- A number's lowest bytes, the lowest first. -/
def le : Nat → Int → List Int
  | 0, _ => []
  | k + 1, x => x % 256 :: le k (x / 256)
theorem le_len : ∀ (k : Nat) (x : Int), (le k x).length = k
  | 0, _ => rfl
  | k + 1, x => by rw [le, List.length_cons, le_len k]
theorem flat_len {γ δ : Type} {f : γ → List δ} {m : Nat} : ∀ (l : List γ), (∀ x ∈ l, (f x).length ≤ m) → (l.flatMap f).length ≤ l.length * m
  | [], _ => by simp
  | x :: l, h => by
    have h1 := h x (by simp)
    have h2 := flat_len l fun y hy => h y (by simp [hy])
    rw [List.flatMap_cons, List.length_append, List.length_cons, Nat.add_mul, Nat.one_mul]
    omega
theorem flat_take_len {γ δ : Type} {f : γ → List δ} {m : Nat} {l : List γ} (h : ∀ x ∈ l, (f x).length ≤ m) (j : Nat) : ((l.take j).flatMap f).length ≤ l.length * m := by
  have h1 := flat_len (l.take j) fun x hx => h x (List.mem_of_mem_take hx)
  have h2 : (l.take j).length ≤ l.length := by simp; omega
  exact Nat.le_trans h1 (Nat.mul_le_mul_right _ h2)
theorem eput_loop (K : Nat) (hK : K ≤ 8) : ∀ (m j : Nat) (b : List Int) (n : Int), j + m = K → 0 ≤ n ∧ n ≤ 18446744073709551615 → b.length + m ≤ 140737488355328 → itr R20_0 (m + 1) (b, n, (K : Int), (j : Int), ()) = some (b ++ le m n, ())
  | 0, j, b, n, hj, hn, hb => by
    refine itr_out ?_
    unfold R20_0 Q20_0
    simp only []
    rw [bif_f (decide_eq_false (by omega)), le, List.append_nil]
  | m + 1, j, b, n, hj, hn, hb => by
    have hs : R20_0 (b, n, (K : Int), (j : Int), ()) = some (.inl (b ++ [n % 256], n / 256, (K : Int), ((j + 1 : Nat) : Int), ())) := by
      unfold R20_0 Q20_0
      simp only []
      rw [bif_t (decide_eq_true (by omega)), bif_t (decide_eq_true (by omega)), w8, fdiv_pos (by omega), wsi (by omega)]
      rfl
    rw [itr_in hs, eput_loop K hK m (j + 1) (b ++ [n % 256]) (n / 256) (by omega) (by omega) (by simp; omega), le]
    simp
theorem eput {b : List Int} {n : Int} {K : Nat} (hK : K ≤ 8) (hn : 0 ≤ n ∧ n ≤ 18446744073709551615) (hb : b.length + K ≤ 140737488355328) : N20 (b, n, (K : Int), ()) = some (b ++ le K n, ()) := by
  unfold N20 M20
  simp only []
  have := itrs_of (eput_loop K hK K 0 b n (by omega) hn hb) (by omega)
  rw [show (0 : Int) = ((0 : Nat) : Int) from rfl, this]
  rfl
def u64 (x : Int) : Int := x % 18446744073709551616
theorem u64_in (x : Int) : 0 ≤ u64 x ∧ u64 x ≤ 18446744073709551615 := by unfold u64; omega
def encSize (s : Int) : List Int := le 8 (u64 s)
def encWide (w : Int × Int) : List Int := le 8 w.2 ++ le 8 (u64 w.1)
def encTier (t : Int × Int) : List Int := le 8 (u64 t.1) ++ le 8 (u64 t.2)
def encTiers (l : List (Int × Int)) : List Int := ((l.length : Int) % 256) :: l.flatMap encTier
def encInstr (c : Int × Int × Int) : List Int := le 1 (u64 c.1) ++ le 2 (u64 c.2.1) ++ le 2 (u64 c.2.2)
def headB (p : Prg) : List Int := [79, 67, 84, 49, p.1 % 256, p.2.1 % 256, (p.2.2.1.length : Int) % 256]
/-- A program's bytes. -/
def encB (p : Prg) : List Int :=
  headB p ++ p.2.2.1.flatMap encSize ++ le 2 (p.2.2.2.1.length : Int) ++ p.2.2.2.1.flatMap encWide ++ le 2 (p.2.2.2.2.1.length : Int) ++ p.2.2.2.2.1.flatMap encTiers ++ le 2 (p.2.2.2.2.2.length : Int) ++ p.2.2.2.2.2.flatMap encInstr
section
variable (z : Int × Int × List Int × List (Int × Int) × List (List (Int × Int)) × List (Int × Int × Int) × Unit)
theorem e_sizes {b l : List Int} (h : b.length + l.length * 8 ≤ 140737488355328) : itrs R10_0 (z, b, l, (l.length : Int), 0, ()) = some (z, b ++ l.flatMap encSize, ()) := by
  obtain ⟨z0, z1, z2, z3, z4, z5, ⟨⟩⟩ := z
  refine itrs_seq (fun j => ((z0, z1, z2, z3, z4, z5, ()), b ++ (l.take j).flatMap encSize, l, (l.length : Int), (j : Int), ())) l.length (by simp) (fun j hj => ?_) ?_ (by omega)
  · have hb := flat_take_len (f := encSize) (m := 8) (l := l) (fun x _ => by simp [encSize, le_len]) j
    have hj2 : ((l.take j).flatMap encSize).length ≤ j * 8 := Nat.le_trans (flat_len (l.take j) fun x _ => by simp [encSize, le_len]) (Nat.mul_le_mul_right _ (by simp; omega))
    unfold R10_0 Q10_0
    simp only []
    rw [bif_t (decide_eq_true (by omega)), at_get hj]
    simp only [Option.bind_some]
    have := eput (b := b ++ (l.take j).flatMap encSize) (n := u64 l[j]) (K := 8) (by omega) (u64_in _) (by rw [List.length_append]; omega)
    rw [wu, show l[j] % 18446744073709551616 = u64 l[j] from rfl, show (8 : Int) = ((8 : Nat) : Int) from rfl, this]
    simp only [Option.bind_some]
    rw [wsi (by omega), take_flat _ _ hj, List.append_assoc]
    rfl
  · unfold R10_0 Q10_0
    simp only []
    rw [bif_f (decide_eq_false (by omega)), List.take_length]
theorem e_consts {b : List Int} {l : List (Int × Int)} (hl : ∀ w ∈ l, 0 ≤ w.2 ∧ w.2 ≤ 18446744073709551615) (h : b.length + l.length * 16 ≤ 140737488355328) : itrs R10_2 (z, b, l, (l.length : Int), 0, ()) = some (z, b ++ l.flatMap encWide, ()) := by
  obtain ⟨z0, z1, z2, z3, z4, z5, ⟨⟩⟩ := z
  refine itrs_seq (fun j => ((z0, z1, z2, z3, z4, z5, ()), b ++ (l.take j).flatMap encWide, l, (l.length : Int), (j : Int), ())) l.length (by simp) (fun j hj => ?_) ?_ (by omega)
  · have hj2 : ((l.take j).flatMap encWide).length ≤ j * 16 := Nat.le_trans (flat_len (l.take j) fun x _ => by simp [encWide, le_len]) (Nat.mul_le_mul_right _ (by simp; omega))
    unfold R10_2 Q10_2
    simp only []
    rw [bif_t (decide_eq_true (by omega)), at_get hj]
    simp only [Option.bind_some]
    rw [wu, show l[j].1 % 18446744073709551616 = u64 l[j].1 from rfl, show (8 : Int) = ((8 : Nat) : Int) from rfl, eput (by omega) (hl _ (List.getElem_mem hj)) (by rw [List.length_append]; omega)]
    simp only [Option.bind_some]
    rw [eput (by omega) (u64_in _) (by rw [List.length_append, List.length_append, le_len]; omega)]
    simp only [Option.bind_some]
    rw [wsi (by omega), take_flat _ _ hj, List.append_assoc, List.append_assoc]
    rfl
  · unfold R10_2 Q10_2
    simp only []
    rw [bif_f (decide_eq_false (by omega)), List.take_length]
theorem e_tiers {b : List Int} {l : List (Int × Int)} {ts : List (List (Int × Int))} {n i : Int} (h : b.length + l.length * 16 ≤ 140737488355328) : itrs R10_6 (z, b, ts, n, i, l, (l.length : Int), 0, ()) = some (z, b ++ l.flatMap encTier, ts, n, i, ()) := by
  obtain ⟨z0, z1, z2, z3, z4, z5, ⟨⟩⟩ := z
  refine itrs_seq (fun j => ((z0, z1, z2, z3, z4, z5, ()), b ++ (l.take j).flatMap encTier, ts, n, i, l, (l.length : Int), (j : Int), ())) l.length (by simp) (fun j hj => ?_) ?_ (by omega)
  · have hj2 : ((l.take j).flatMap encTier).length ≤ j * 16 := Nat.le_trans (flat_len (l.take j) fun x _ => by simp [encTier, le_len]) (Nat.mul_le_mul_right _ (by simp; omega))
    unfold R10_6 Q10_6
    simp only []
    rw [bif_t (decide_eq_true (by omega)), at_get hj]
    simp only [Option.bind_some]
    rw [wu, wu, show l[j].1 % 18446744073709551616 = u64 l[j].1 from rfl, show l[j].2 % 18446744073709551616 = u64 l[j].2 from rfl, show (8 : Int) = ((8 : Nat) : Int) from rfl, eput (by omega) (u64_in _) (by rw [List.length_append]; omega)]
    simp only [Option.bind_some]
    rw [eput (by omega) (u64_in _) (by rw [List.length_append, List.length_append, le_len]; omega)]
    simp only [Option.bind_some]
    rw [wsi (by omega), take_flat _ _ hj, List.append_assoc, List.append_assoc]
    rfl
  · unfold R10_6 Q10_6
    simp only []
    rw [bif_f (decide_eq_false (by omega)), List.take_length]
theorem encTiers_len {l : List (Int × Int)} (h : l.length ≤ 16) : (encTiers l).length ≤ 257 := by
  have := flat_len (f := encTier) (m := 16) l fun x _ => by simp [encTier, le_len]
  rw [encTiers, List.length_cons]
  omega
theorem e_scales {b : List Int} {l : List (List (Int × Int))} (hl : ∀ t ∈ l, t.length ≤ 16) (h : b.length + l.length * 257 ≤ 140737488355328) : itrs R10_4 (z, b, l, (l.length : Int), 0, ()) = some (z, b ++ l.flatMap encTiers, ()) := by
  obtain ⟨z0, z1, z2, z3, z4, z5, ⟨⟩⟩ := z
  refine itrs_seq (fun j => ((z0, z1, z2, z3, z4, z5, ()), b ++ (l.take j).flatMap encTiers, l, (l.length : Int), (j : Int), ())) l.length (by simp) (fun j hj => ?_) ?_ (by omega)
  · have hj2 : ((l.take j).flatMap encTiers).length ≤ j * 257 := Nat.le_trans (flat_len (l.take j) fun x hx => encTiers_len (hl x (List.mem_of_mem_take hx))) (Nat.mul_le_mul_right _ (by simp; omega))
    have ht := hl _ (List.getElem_mem hj)
    unfold R10_4 Q10_4
    simp only []
    rw [bif_t (decide_eq_true (by omega)), at_get hj]
    simp only [Option.bind_some]
    rw [bif_t (decide_eq_true (by rw [List.length_append]; omega))]
    simp only [Option.bind_some]
    rw [e_tiers _ (by simp only [List.length_append, List.length_singleton]; omega)]
    simp only [Option.bind_some]
    rw [wsi (by omega), take_flat _ _ hj, w8]
    simp [encTiers]
  · unfold R10_4 Q10_4
    simp only []
    rw [bif_f (decide_eq_false (by omega)), List.take_length]
omit z in
theorem e_code {b : List Int} {l : List (Int × Int × Int)} (h : b.length + l.length * 5 ≤ 140737488355328) : itrs R10_8 (b, l, (l.length : Int), 0, ()) = some (b ++ l.flatMap encInstr, ()) := by
  refine itrs_seq (fun j => (b ++ (l.take j).flatMap encInstr, l, (l.length : Int), (j : Int), ())) l.length (by simp) (fun j hj => ?_) ?_ (by omega)
  · have hj2 : ((l.take j).flatMap encInstr).length ≤ j * 5 := Nat.le_trans (flat_len (l.take j) fun x _ => by simp [encInstr, le_len]) (Nat.mul_le_mul_right _ (by simp; omega))
    unfold R10_8 Q10_8
    simp only []
    rw [bif_t (decide_eq_true (by omega)), at_get hj]
    simp only [Option.bind_some]
    rw [wu, wu, wu, show l[j].1 % 18446744073709551616 = u64 l[j].1 from rfl, show l[j].2.1 % 18446744073709551616 = u64 l[j].2.1 from rfl, show l[j].2.2 % 18446744073709551616 = u64 l[j].2.2 from rfl]
    have p1 := eput (b := b ++ (l.take j).flatMap encInstr) (n := u64 l[j].1) (K := 1) (by omega) (u64_in _) (by rw [List.length_append]; omega)
    rw [show (1 : Int) = ((1 : Nat) : Int) from rfl, p1]
    simp only [Option.bind_some]
    rw [show (2 : Int) = ((2 : Nat) : Int) from rfl, eput (by omega) (u64_in _) (by simp only [List.length_append, le_len]; omega)]
    simp only [Option.bind_some]
    rw [eput (by omega) (u64_in _) (by simp only [List.length_append, le_len]; omega)]
    simp only [Option.bind_some]
    rw [wsi (by omega), take_flat _ _ hj]
    simp [encInstr]
  · unfold R10_8 Q10_8
    simp only []
    rw [bif_f (decide_eq_false (by omega)), List.take_length]
/-! ### the reference -/
end
section
variable (mode scale : Int) (sizes : List Int) (consts : List (Int × Int)) (scales : List (List (Int × Int))) (code : List (Int × Int × Int))
end
end Go.Proofs.Ytigjckjkhnokbaa.E
namespace Go.Proofs.Ytigjckjkhnokbaa.E
open Go
set_option linter.unusedVariables false
set_option maxRecDepth 100000
theorem bif_zero {c : Bool} {a b : Int} (ha : a ≠ 0) (h : (bif c then a else b) = 0) : c = false ∧ b = 0 := by
  cases c with
  | true => exact absurd h ha
  | false => exact ⟨rfl, h⟩
theorem tiersOk_len {l : List (Int × Int)} (h : tiersOk l = true) : l.length ≤ 16 := by
  unfold tiersOk at h
  cases h1 : decide ((l.length : Int) < 1) with
  | true => rw [h1] at h; cases h
  | false =>
    rw [h1] at h
    cases h2 : decide ((l.length : Int) > 16) with
    | true => rw [h2] at h; cases h
    | false =>
      have := of_decide_eq_false h2
      omega
structure Fit (p : Prg) : Prop where
  a : p.2.2.1.length ≤ 4
  b : p.2.2.2.1.length ≤ 1024
  c : p.2.2.2.2.1.length ≤ 1024
  d : p.2.2.2.2.2.length ≤ 8192
  e : ∀ l ∈ p.2.2.2.2.1, l.length ≤ 16
theorem chk_fit {p : Prg} (h : chk p = 0) : Fit p := by
  unfold chk at h
  obtain ⟨_, h⟩ := bif_zero (by decide) h
  obtain ⟨_, h⟩ := bif_zero (by decide) h
  obtain ⟨_, h⟩ := bif_zero (by decide) h
  obtain ⟨_, h⟩ := bif_zero (by decide) h
  obtain ⟨_, h⟩ := bif_zero (by decide) h
  obtain ⟨ha, h⟩ := bif_zero (by decide) h
  obtain ⟨_, h⟩ := bif_zero (by decide) h
  obtain ⟨hb, h⟩ := bif_zero (by decide) h
  obtain ⟨hc, h⟩ := bif_zero (by decide) h
  obtain ⟨hd, h⟩ := bif_zero (by decide) h
  obtain ⟨he, h⟩ := bif_zero (by decide) h
  have ha := of_decide_eq_false ha
  have hb := of_decide_eq_false hb
  have hc := of_decide_eq_false hc
  have hd := of_decide_eq_false hd
  refine ⟨by omega, by omega, by omega, by omega, fun l hl => ?_⟩
  obtain ⟨j, hj, rfl⟩ := List.getElem_of_mem hl
  rw [List.any_eq_false] at he
  have := he j (by rw [List.mem_range'_1]; omega)
  rw [getD_at hj] at this
  exact tiersOk_len (by simpa using this)
def encans (p : Prg) : List Int × Int × Unit := bif chk p != 0 then ([], chk p, ()) else (encB p, 0, ())
def Los (p : Prg) : Prop := ∀ w ∈ p.2.2.2.1, 0 ≤ w.2 ∧ w.2 ≤ 18446744073709551615
theorem eEncode {p : Prg} (hp : Small p) (hw : Los p) : N10 (p, ()) = some (encans p) := by
  have hc := echeck hp
  have hf := chk_fit (p := p)
  unfold encans encB headB
  generalize chk p = e at *
  obtain ⟨mode, scale, sizes, consts, scales, code⟩ := p
  unfold N10 M10
  simp only []
  rw [hc]
  simp only [Option.bind_some]
  by_cases h0 : e = 0
  · obtain ⟨fa, fb, fc, fd, fe⟩ := hf h0
    simp only at fa fb fc fd fe
    subst h0
    simp only [bne_self_eq_false, cond_false]
    have s1 := flat_len (f := encSize) (m := 8) sizes fun x _ => by simp [encSize, le_len]
    have s2 := flat_len (f := encWide) (m := 16) consts fun x _ => by simp [encWide, le_len]
    have s3 := flat_len (f := encTiers) (m := 257) scales fun x hx => encTiers_len (fe x hx)
    rw [e_sizes _ (by simp; omega)]
    simp only [Option.bind_some]
    rw [wui (n := (consts.length : Int)) (by omega), show (2 : Int) = ((2 : Nat) : Int) from rfl, eput (by omega) (by omega) (by simp only [List.length_append, List.length_cons, List.length_nil]; omega)]
    simp only [Option.bind_some]
    rw [e_consts _ hw (by simp only [List.length_append, List.length_cons, List.length_nil, le_len]; omega)]
    simp only [Option.bind_some]
    rw [wui (n := (scales.length : Int)) (by omega), eput (by omega) (by omega) (by simp only [List.length_append, List.length_cons, List.length_nil, le_len]; omega)]
    simp only [Option.bind_some]
    rw [e_scales _ fe (by simp only [List.length_append, List.length_cons, List.length_nil, le_len]; omega)]
    simp only [Option.bind_some]
    rw [wui (n := (code.length : Int)) (by omega), eput (by omega) (by omega) (by simp only [List.length_append, List.length_cons, List.length_nil, le_len]; omega)]
    simp only [Option.bind_some]
    rw [e_code (by simp only [List.length_append, List.length_cons, List.length_nil, le_len]; omega)]
    simp only [Option.bind_some, w8]
    rfl
  · have hb : (e != 0) = true := by simpa using h0
    rw [hb]
    rfl
end Go.Proofs.Ytigjckjkhnokbaa.E
namespace Go.Proofs.Ytigjckjkhnokbaa.E
open Go
set_option linter.unusedVariables false
set_option maxRecDepth 100000
theorem or_word {a b S : Int} {s : Nat} (hS : S = 2 ^ s) (ha : 0 ≤ a) (hb : 0 ≤ b ∧ b < S) (h : a * S + b ≤ 18446744073709551615) : IntKind.wrap .u64 ↑(BitVec.toNat (BitVec.ofInt 64 (a * S) ||| BitVec.ofInt 64 b)) = a * S + b := by
  have hS0 : 0 < S := by rw [hS]; exact Int.pow_pos (by decide)
  have h0 : 0 ≤ a * S := Int.mul_nonneg ha (by omega)
  obtain ⟨A, rfl⟩ := Int.eq_ofNat_of_zero_le ha
  obtain ⟨B, rfl⟩ := Int.eq_ofNat_of_zero_le hb.1
  have e : ((A : Int) * S) = ((A * 2 ^ s : Nat) : Int) := by rw [hS]; simp
  have hB : B < 2 ^ s := by have := hb.2; rw [hS] at this; exact_mod_cast this
  rw [e] at h ⊢
  have := u64_or_nat (A * 2 ^ s) B (by omega) (by omega)
  rw [show IntKind.wrap .u64 ↑(BitVec.toNat (BitVec.ofInt 64 ((A * 2 ^ s : Nat) : Int) ||| BitVec.ofInt 64 ((B : Nat) : Int))) = Go.bits .or .u64 ((A * 2 ^ s : Nat) : Int) ((B : Nat) : Int) from rfl, this, Nat.mul_comm, ← Nat.two_pow_add_eq_or_of_lt hB]
  simp
/-- The number of some bytes, the lowest first. -/
def num : List Int → Int
  | [] => 0
  | x :: r => x + 256 * num r
def Byte (x : Int) : Prop := 0 ≤ x ∧ x ≤ 255
theorem num_in : ∀ (l : List Int), (∀ x ∈ l, Byte x) → 0 ≤ num l ∧ num l < 256 ^ l.length
  | [], _ => by simp [num]
  | x :: l, h => by
    have h1 := h x (by simp)
    unfold Byte at h1
    obtain ⟨i1, i2⟩ := num_in l fun y hy => h y (by simp [hy])
    simp only [num, List.length_cons, Int.pow_succ]
    generalize (256 : Int) ^ l.length = p at *
    omega
theorem pow256 {m : Nat} (h : m ≤ 7) : (256 : Int) ^ m ≤ 72057594037927936 := by
  have : m = 0 ∨ m = 1 ∨ m = 2 ∨ m = 3 ∨ m = 4 ∨ m = 5 ∨ m = 6 ∨ m = 7 := by omega
  rcases this with rfl | rfl | rfl | rfl | rfl | rfl | rfl | rfl <;> decide
theorem take_loop {b : List Int} (hb : ∀ x ∈ b, Byte x) (s : Bool) {k : Nat} (hk : k ≤ 8) (hl : k ≤ b.length) : ∀ (m : Nat), m ≤ k →
    itr R21_0 (m + 1) ((b, s, ()), (k : Int), num ((b.take k).drop m), (m : Int) - 1, ()) = some ((b, s, ()), (k : Int), num (b.take k), ())
  | 0, _ => by
    refine itr_out ?_
    unfold R21_0 Q21_0
    simp only []
    rw [bif_f (decide_eq_false (by omega)), List.drop_zero]
  | m + 1, hm => by
    have hlen : (b.take k).length = k := by simp; omega
    have hmk : m < (b.take k).length := by omega
    have hbm : b[m] = (b.take k)[m] := by simp
    have hx := hb b[m] (List.getElem_mem (by omega))
    unfold Byte at hx
    obtain ⟨n0, n1⟩ := num_in ((b.take k).drop (m + 1)) fun y hy => hb y (List.mem_of_mem_take (List.mem_of_mem_drop hy))
    rw [List.length_drop, hlen] at n1
    have hp := pow256 (m := k - (m + 1)) (by omega)
    have hs : R21_0 ((b, s, ()), (k : Int), num ((b.take k).drop (m + 1)), ((m + 1 : Nat) : Int) - 1, ()) = some (.inl ((b, s, ()), (k : Int), num ((b.take k).drop m), (m : Int) - 1, ())) := by
      unfold R21_0 Q21_0
      simp only []
      rw [show ((m + 1 : Nat) : Int) - 1 = (m : Int) from by omega, bif_t (decide_eq_true (by omega)), at_get (show m < b.length by omega)]
      simp only [Option.bind_some]
      rw [wui (n := num ((b.take k).drop (m + 1)) * 256) (by omega), wui (n := b[m]) (by omega), or_word (S := 256) (s := 8) (by decide) n0 (by omega) (by omega), wsi (by omega), List.drop_eq_getElem_cons hmk]
      simp only [num]
      rw [← hbm, show num ((b.take k).drop (m + 1)) * 256 + b[m] = b[m] + 256 * num ((b.take k).drop (m + 1)) from by omega]
    rw [itr_in hs]
    exact take_loop hb s hk hl m (by omega)
/-- What taking k bytes answers. -/
def tk (b : List Int) (s : Bool) (k : Nat) : Int × (List Int × Bool × Unit) × Unit := bif decide (b.length < k) then (0, (b, true, ()), ()) else (num (b.take k), (b.drop k, s, ()), ())
theorem etake {b : List Int} (hb : ∀ x ∈ b, Byte x) (hl : b.length ≤ 140737488355328) (s : Bool) {k : Nat} (hk : 1 ≤ k ∧ k ≤ 8) : N21 ((b, s, ()), (k : Int), ()) = some (tk b s k) := by
  unfold N21 M21 tk
  simp only []
  by_cases h : b.length < k
  · rw [bif_t (decide_eq_true (by omega)), bif_t (decide_eq_true h)]
  · rw [bif_f (decide_eq_false (by omega)), bif_f (decide_eq_false h), wsi (n := (k : Int) - 1) (by omega)]
    have := itrs_of (take_loop hb s hk.2 (by omega) k (Nat.le_refl _)) (by omega)
    rw [List.drop_eq_nil_of_le (by rw [List.length_take]; omega)] at this
    rw [show (0 : Int) = num [] from rfl, this]
    simp only [Option.bind_some]
    rw [bif_t (show (decide (num [] ≤ (k : Int)) && decide ((k : Int) ≤ (b.length : Int)) && decide ((b.length : Int) ≤ (b.length : Int))) = true from by rw [decide_eq_true (show num [] ≤ (k : Int) by simp [num]), decide_eq_true (by omega), decide_eq_true (by omega)]; rfl)]
    simp only [Option.bind_some, Int.toNat_natCast]
    have ht : (b.drop k).take (b.length - k) = b.drop k := List.take_of_length_le (by rw [List.length_drop]; exact Nat.le_refl _)
    rw [ht]
end Go.Proofs.Ytigjckjkhnokbaa.E
namespace Go.Proofs.Ytigjckjkhnokbaa.E
open Go
set_option linter.unusedVariables false
set_option maxRecDepth 100000
/-! ### parsers -/
abbrev Ps (α : Type) : Type := List Int → Option (α × List Int)
def Ps.bind {α β : Type} (p : Ps α) (f : α → Ps β) : Ps β := fun l => match p l with | some (a, l') => f a l' | none => none
def Ps.ret {α : Type} (a : α) : Ps α := fun l => some (a, l)
/-- A number of k bytes. -/
def pnum (k : Nat) : Ps Int := fun l => bif decide (l.length < k) then none else some (num (l.take k), l.drop k)
def rep {α : Type} (p : Ps α) : Nat → Ps (List α)
  | 0 => Ps.ret []
  | n + 1 => p.bind fun a => (rep p n).bind fun r => Ps.ret (a :: r)
def s64 (x : Int) : Int := IntKind.wrap .i64 x
def pSize : Ps Int := (pnum 8).bind fun x => Ps.ret (s64 x)
def pWide : Ps (Int × Int) := (pnum 8).bind fun lo => (pnum 8).bind fun hi => Ps.ret (s64 hi, lo)
def pTier : Ps (Int × Int) := (pnum 8).bind fun a => (pnum 8).bind fun b => Ps.ret (s64 a, s64 b)
def pTiers : Ps (List (Int × Int)) := (pnum 1).bind fun n => rep pTier n.toNat
def pInstr : Ps (Int × Int × Int) := (pnum 1).bind fun a => (pnum 2).bind fun b => (pnum 2).bind fun c => Ps.ret (s64 a, s64 b, s64 c)
def pMany {α : Type} (k : Nat) (p : Ps α) : Ps (List α) := (pnum k).bind fun n => rep p n.toNat
def pPrg : Ps Prg :=
  (pnum 1).bind fun mode => (pnum 1).bind fun scale => (pMany 1 pSize).bind fun sizes => (pMany 2 pWide).bind fun consts => (pMany 2 pTiers).bind fun scales => (pMany 2 pInstr).bind fun code => Ps.ret (s64 mode, s64 scale, sizes, consts, scales, code)
/-- A parser that takes at least m bytes, from the front. -/
def Takes {α : Type} (m : Nat) (p : Ps α) : Prop := ∀ l a l', p l = some (a, l') → ∃ k, m ≤ k ∧ k ≤ l.length ∧ l' = l.drop k
theorem takes_pnum (k : Nat) : Takes k (pnum k) := by
  intro l a l' h
  unfold pnum at h
  cases hk : decide (l.length < k) with
  | true => rw [hk] at h; cases h
  | false =>
    rw [hk] at h
    have := of_decide_eq_false hk
    simp only [cond_false, Option.some.injEq, Prod.mk.injEq] at h
    exact ⟨k, Nat.le_refl _, by omega, h.2.symm⟩
theorem takes_ret {α : Type} (a : α) : Takes 0 (Ps.ret a) := by
  intro l b l' h
  unfold Ps.ret at h
  injection h with h
  injection h with h1 h2
  exact ⟨0, Nat.le_refl _, Nat.zero_le _, by rw [List.drop_zero]; exact h2.symm⟩
theorem takes_bind {α β : Type} {m n : Nat} {p : Ps α} {f : α → Ps β} (hp : Takes m p) (hf : ∀ a, Takes n (f a)) : Takes (m + n) (p.bind f) := by
  intro l b l' h
  unfold Ps.bind at h
  split at h
  · rename_i a l1 h1
    obtain ⟨k1, a1, a2, rfl⟩ := hp l a l1 h1
    obtain ⟨k2, b1, b2, rfl⟩ := hf a _ b l' h
    rw [List.length_drop] at b2
    exact ⟨k1 + k2, by omega, by omega, by rw [List.drop_drop]⟩
  · cases h
theorem takes_mono {α : Type} {m n : Nat} {p : Ps α} (h : Takes m p) (hn : n ≤ m) : Takes n p := fun l a l' e => by
  obtain ⟨k, k1, k2, k3⟩ := h l a l' e
  exact ⟨k, by omega, k2, k3⟩
theorem takes_rep {α : Type} {m : Nat} {p : Ps α} (h : Takes m p) : ∀ n, Takes (n * m) (rep p n)
  | 0 => by rw [Nat.zero_mul]; exact takes_ret []
  | n + 1 => by
    have := takes_bind h fun a => takes_bind (takes_rep h n) fun r => takes_ret (a :: r)
    exact takes_mono this (by rw [Nat.add_mul]; omega)
/-- Too few bytes: none. -/
theorem rep_short {α : Type} {m : Nat} {p : Ps α} (h : Takes m p) {n : Nat} {l : List Int} (hl : l.length < n * m) : rep p n l = none := by
  cases e : rep p n l with
  | none => rfl
  | some x =>
    obtain ⟨k, k1, k2, _⟩ := takes_rep h n l x.1 x.2 e
    omega
end Go.Proofs.Ytigjckjkhnokbaa.E
namespace Go.Proofs.Ytigjckjkhnokbaa.E
open Go
set_option linter.unusedVariables false
set_option maxRecDepth 100000
abbrev Sg : Type := List Int × Bool
def Bs (b : List Int) : Prop := ∀ x ∈ b, Byte x
theorem Bs.drop {b : List Int} (h : Bs b) (k : Nat) : Bs (b.drop k) := fun x hx => h x (List.mem_of_mem_drop hx)
def tkS (k : Nat) (st : Sg) : Int × Sg := bif decide (st.1.length < k) then (0, (st.1, true)) else (num (st.1.take k), (st.1.drop k, st.2))
def ctS (k each : Nat) (st : Sg) : Int × Sg := bif decide ((tkS k st).1 * (each : Int) > ((tkS k st).2.1.length : Int)) then (0, ((tkS k st).2.1, true)) else tkS k st
def bindS {α β : Type} (f : Sg → α × Sg) (g : α → Sg → β × Sg) : Sg → β × Sg := fun st => g (f st).1 (f st).2
def retS {α : Type} (a : α) : Sg → α × Sg := fun st => (a, st)
def repS {α : Type} (f : Sg → α × Sg) : Nat → List α → Sg → List α × Sg
  | 0, acc, st => (acc, st)
  | n + 1, acc, st => repS f n (acc ++ [(f st).1]) (f st).2
/-- A reader follows a parser: it stays short once it is; else it answers as the parser does. -/
structure Fo {α : Type} (f : Sg → α × Sg) (p : Ps α) : Prop where
  keep : ∀ b s, Bs b → Bs (f (b, s)).2.1 ∧ (f (b, s)).2.1.length ≤ b.length
  stay : ∀ b, Bs b → (f (b, true)).2.2 = true
  ok : ∀ b v l, Bs b → p b = some (v, l) → f (b, false) = (v, (l, false))
  bad : ∀ b, Bs b → p b = none → (f (b, false)).2.2 = true
theorem fo_tk (k : Nat) : Fo (tkS k) (pnum k) := by
  refine ⟨fun b s hb => ?_, fun b hb => ?_, fun b v l hb h => ?_, fun b hb h => ?_⟩
  · unfold tkS
    cases decide ((b, s).1.length < k) with
    | true => exact ⟨hb, Nat.le_refl _⟩
    | false => exact ⟨hb.drop k, by simp⟩
  · unfold tkS
    cases decide ((b, true).1.length < k) <;> rfl
  · unfold pnum at h
    unfold tkS
    cases hk : decide (b.length < k) with
    | true => rw [hk] at h; cases h
    | false =>
      rw [hk] at h
      simp only [cond_false, Option.some.injEq, Prod.mk.injEq] at h
      obtain ⟨rfl, rfl⟩ := h
      rfl
  · unfold pnum at h
    unfold tkS
    cases hk : decide (b.length < k) with
    | true => rfl
    | false => rw [hk] at h; cases h
theorem fo_ret {α : Type} (a : α) : Fo (retS a) (Ps.ret a) := by
  refine ⟨fun b s hb => ⟨hb, Nat.le_refl _⟩, fun b hb => rfl, fun b v l hb h => ?_, fun b hb h => by cases h⟩
  unfold Ps.ret at h
  injection h with h
  injection h with h1 h2
  subst h1 h2
  rfl
theorem fo_bind {α β : Type} {f : Sg → α × Sg} {p : Ps α} {g : α → Sg → β × Sg} {q : α → Ps β} (hf : Fo f p) (hg : ∀ a, Fo (g a) (q a)) : Fo (bindS f g) (p.bind q) := by
  refine ⟨fun b s hb => ?_, fun b hb => ?_, fun b v l hb h => ?_, fun b hb h => ?_⟩
  · obtain ⟨k1, k2⟩ := hf.keep b s hb
    obtain ⟨k3, k4⟩ := (hg (f (b, s)).1).keep (f (b, s)).2.1 (f (b, s)).2.2 k1
    exact ⟨k3, Nat.le_trans k4 k2⟩
  · have h1 := hf.stay b hb
    obtain ⟨k1, k2⟩ := hf.keep b true hb
    have := (hg (f (b, true)).1).stay (f (b, true)).2.1 k1
    unfold bindS
    rw [show (f (b, true)).2 = ((f (b, true)).2.1, true) from Prod.ext rfl h1]
    exact this
  · unfold Ps.bind at h
    split at h
    · rename_i a l1 h1
      have e1 := hf.ok b a l1 hb h1
      have hb1 : Bs l1 := by have := (hf.keep b false hb).1; rw [e1] at this; exact this
      unfold bindS
      rw [e1]
      exact (hg a).ok l1 v l hb1 h
    · cases h
  · unfold Ps.bind at h
    unfold bindS
    split at h
    · rename_i a l1 h1
      have e1 := hf.ok b a l1 hb h1
      have hb1 : Bs l1 := by have := (hf.keep b false hb).1; rw [e1] at this; exact this
      rw [e1]
      exact (hg a).bad l1 hb1 h
    · rename_i h1
      have e1 := hf.bad b hb h1
      obtain ⟨k1, k2⟩ := hf.keep b false hb
      have := (hg (f (b, false)).1).stay (f (b, false)).2.1 k1
      rw [show (f (b, false)).2 = ((f (b, false)).2.1, true) from Prod.ext rfl e1]
      exact this
theorem repS_acc {α : Type} (f : Sg → α × Sg) : ∀ (n : Nat) (acc : List α) (st : Sg), repS f n acc st = (acc ++ (repS f n [] st).1, (repS f n [] st).2)
  | 0, acc, st => by simp [repS]
  | n + 1, acc, st => by
    rw [repS, repS_acc f n (acc ++ [(f st).1]), repS, repS_acc f n ([] ++ [(f st).1])]
    simp
theorem repS_bind {α : Type} (f : Sg → α × Sg) (n : Nat) : repS f (n + 1) [] = bindS f fun a => bindS (repS f n []) fun r => retS (a :: r) := by
  funext st
  rw [repS, repS_acc]
  simp [bindS, retS]
theorem repS_len {α : Type} (f : Sg → α × Sg) : ∀ (n : Nat) (acc : List α) (st : Sg), (repS f n acc st).1.length = acc.length + n
  | 0, acc, st => by simp [repS]
  | n + 1, acc, st => by rw [repS, repS_len f n]; simp; omega
theorem fo_rep {α : Type} {f : Sg → α × Sg} {p : Ps α} (h : Fo f p) : ∀ n, Fo (repS f n []) (rep p n)
  | 0 => fo_ret []
  | n + 1 => by
    rw [repS_bind]
    exact fo_bind h fun a => fo_bind (fo_rep h n) fun r => fo_ret (a :: r)
theorem num_nonneg {b : List Int} (hb : Bs b) : 0 ≤ num b := (num_in b hb).1
/-- A number of things ahead of the things: the reader's look whether there are bytes enough is no other answer. -/
theorem fo_count {α : Type} {f : Sg → α × Sg} {p : Ps α} (h : Fo f p) {k each : Nat} (ht : Takes each p) : Fo (bindS (ctS k each) fun n => repS f n.toNat []) ((pnum k).bind fun n => rep p n.toNat) := by
  have base := fo_bind (fo_tk k) fun n : Int => fo_rep h n.toNat
  have hk : ∀ b s, Bs b → Bs (tkS k (b, s)).2.1 ∧ (tkS k (b, s)).2.1.length ≤ b.length := (fo_tk k).keep
  have hpos : ∀ b s, Bs b → 0 ≤ (tkS k (b, s)).1 := by
    intro b s hb
    unfold tkS
    cases decide ((b, s).1.length < k) with
    | true => exact Int.le_refl _
    | false => exact num_nonneg fun x hx => hb x (List.mem_of_mem_take hx)
  -- where the look fails
  have far : ∀ b s, Bs b → decide ((tkS k (b, s)).1 * (each : Int) > ((tkS k (b, s)).2.1.length : Int)) = true → bindS (ctS k each) (fun n => repS f n.toNat []) (b, s) = ([], ((tkS k (b, s)).2.1, true)) := by
    intro b s hb hd
    unfold bindS ctS
    rw [hd]
    rfl
  have near : ∀ b s, decide ((tkS k (b, s)).1 * (each : Int) > ((tkS k (b, s)).2.1.length : Int)) = false → bindS (ctS k each) (fun n => repS f n.toNat []) (b, s) = bindS (tkS k) (fun n => repS f n.toNat []) (b, s) := by
    intro b s hd
    unfold bindS ctS
    rw [hd]
    rfl
  have none_far : ∀ b v l, Bs b → pnum k b = some (v, l) → decide (v * (each : Int) > (l.length : Int)) = true → rep p v.toNat l = none := by
    intro b v l hb h1 hd
    have e1 := (fo_tk k).ok b v l hb h1
    have hv := hpos b false hb
    rw [e1] at hv
    refine rep_short ht ?_
    have := of_decide_eq_true hd
    obtain ⟨V, rfl⟩ := Int.eq_ofNat_of_zero_le hv
    rw [Int.toNat_natCast]
    exact_mod_cast this
  refine ⟨fun b s hb => ?_, fun b hb => ?_, fun b v l hb h1 => ?_, fun b hb h1 => ?_⟩
  · cases hd : decide ((tkS k (b, s)).1 * (each : Int) > ((tkS k (b, s)).2.1.length : Int)) with
    | true => rw [far b s hb hd]; exact hk b s hb
    | false => rw [near b s hd]; exact base.keep b s hb
  · cases hd : decide ((tkS k (b, true)).1 * (each : Int) > ((tkS k (b, true)).2.1.length : Int)) with
    | true => rw [far b true hb hd]
    | false => rw [near b true hd]; exact base.stay b hb
  · cases hd : decide ((tkS k (b, false)).1 * (each : Int) > ((tkS k (b, false)).2.1.length : Int)) with
    | true =>
      exfalso
      unfold Ps.bind at h1
      split at h1
      · rename_i a l1 h2
        have e1 := (fo_tk k).ok b a l1 hb h2
        rw [e1] at hd
        have h3 := none_far b a l1 hb h2 hd
        have h1 : rep p a.toNat l1 = some (v, l) := h1
        rw [h3] at h1
        cases h1
      · cases h1
    | false => rw [near b false hd]; exact base.ok b v l hb h1
  · cases hd : decide ((tkS k (b, false)).1 * (each : Int) > ((tkS k (b, false)).2.1.length : Int)) with
    | true => rw [far b false hb hd]
    | false => rw [near b false hd]; exact base.bad b hb h1
end Go.Proofs.Ytigjckjkhnokbaa.E
namespace Go.Proofs.Ytigjckjkhnokbaa.E
open Go
set_option linter.unusedVariables false
set_option maxRecDepth 100000
/-- Bytes of a length that a memory can hold. -/
def Bl (b : List Int) : Prop := Bs b ∧ b.length ≤ 140737488355328
def fl1 (t : Int × Sg) : Int × (List Int × Bool × Unit) × Unit := (t.1, (t.2.1, t.2.2, ()), ())
theorem tk_S (b : List Int) (s : Bool) (k : Nat) : tk b s k = fl1 (tkS k (b, s)) := by
  unfold tk tkS fl1
  simp only []
  cases decide (b.length < k) <;> rfl
theorem Bl.tk {b : List Int} (h : Bl b) (s : Bool) (k : Nat) : Bl (tkS k (b, s)).2.1 := by
  obtain ⟨h1, h2⟩ := (fo_tk k).keep b s h.1
  exact ⟨h1, Nat.le_trans h2 h.2⟩
theorem eTake {b : List Int} (hb : Bl b) (s : Bool) {k : Nat} (hk : 1 ≤ k ∧ k ≤ 8) : N21 ((b, s, ()), (k : Int), ()) = some (fl1 (tkS k (b, s))) := by
  rw [etake hb.1 hb.2 s hk, tk_S]
theorem tkS_in {b : List Int} (hb : Bs b) (s : Bool) {k : Nat} (hk : k ≤ 2) : 0 ≤ (tkS k (b, s)).1 ∧ (tkS k (b, s)).1 ≤ 65535 := by
  unfold tkS
  cases hd : decide ((b, s).1.length < k) with
  | true => exact ⟨Int.le_refl _, by show (0 : Int) ≤ 65535; omega⟩
  | false =>
    obtain ⟨h0, h1⟩ := num_in (b.take k) fun x hx => hb x (List.mem_of_mem_take hx)
    have hl : (b.take k).length ≤ 2 := by rw [List.length_take]; omega
    have : (256 : Int) ^ (b.take k).length ≤ 65536 := by
      have : (b.take k).length = 0 ∨ (b.take k).length = 1 ∨ (b.take k).length = 2 := by omega
      rcases this with e | e | e <;> rw [e] <;> decide
    simp only [cond_false]
    omega
theorem eCount {b : List Int} (hb : Bl b) (s : Bool) {k each : Nat} (hk : 1 ≤ k ∧ k ≤ 2) (he : each ≤ 16) : N22 ((b, s, ()), (k : Int), (each : Int), ()) = some (fl1 (ctS k each (b, s))) := by
  have hv := tkS_in hb.1 s hk.2
  unfold N22 M22 ctS
  simp only []
  rw [eTake hb s ⟨hk.1, by omega⟩]
  have hm : 0 ≤ (tkS k (b, s)).1 * (each : Int) ∧ (tkS k (b, s)).1 * (each : Int) ≤ 1048560 := by
    refine ⟨Int.mul_nonneg hv.1 (by omega), ?_⟩
    have := Int.mul_le_mul hv.2 (show (each : Int) ≤ 16 by omega) (by omega) (by omega)
    omega
  simp only [fl1, Option.bind_some]
  rw [wsi (n := (tkS k (b, s)).1) (by omega), wsi (by omega)]
  cases decide ((tkS k (b, s)).1 * (each : Int) > ((tkS k (b, s)).2.1.length : Int)) <;> rfl
def fSize : Sg → Int × Sg := bindS (tkS 8) fun x => retS (s64 x)
def fWide : Sg → (Int × Int) × Sg := bindS (tkS 8) fun lo => bindS (tkS 8) fun hi => retS (s64 hi, lo)
def fTier : Sg → (Int × Int) × Sg := bindS (tkS 8) fun a => bindS (tkS 8) fun b => retS (s64 a, s64 b)
def fTiers : Sg → List (Int × Int) × Sg := bindS (ctS 1 16) fun n => repS fTier n.toNat []
def fInstr : Sg → (Int × Int × Int) × Sg := bindS (tkS 1) fun a => bindS (tkS 2) fun b => bindS (tkS 2) fun c => retS (s64 a, s64 b, s64 c)
theorem fo_size : Fo fSize pSize := fo_bind (fo_tk 8) fun x => fo_ret (s64 x)
theorem fo_wide : Fo fWide pWide := fo_bind (fo_tk 8) fun lo => fo_bind (fo_tk 8) fun hi => fo_ret (s64 hi, lo)
theorem fo_tier : Fo fTier pTier := fo_bind (fo_tk 8) fun a => fo_bind (fo_tk 8) fun b => fo_ret (s64 a, s64 b)
theorem takes_tier : Takes 16 pTier := takes_bind (takes_pnum 8) fun a => takes_bind (takes_pnum 8) fun b => takes_ret (s64 a, s64 b)
theorem fo_tiers : Fo fTiers pTiers := fo_count fo_tier takes_tier
theorem fo_instr : Fo fInstr pInstr := fo_bind (fo_tk 1) fun a => fo_bind (fo_tk 2) fun b => fo_bind (fo_tk 2) fun c => fo_ret (s64 a, s64 b, s64 c)
theorem Fo.bl {α : Type} {f : Sg → α × Sg} {p : Ps α} (h : Fo f p) {b : List Int} (hb : Bl b) (s : Bool) : Bl (f (b, s)).2.1 := by
  obtain ⟨h1, h2⟩ := h.keep b s hb.1
  exact ⟨h1, Nat.le_trans h2 hb.2⟩
abbrev Zf : Type := Int × Int × List Int × List (Int × Int) × List (List (Int × Int)) × List (Int × Int × Int) × Unit
theorem d_sizes (z : Zf) (mode scale : Int) (consts : List (Int × Int)) (scales : List (List (Int × Int))) (code : List (Int × Int × Int)) {n : Nat} (hn : n ≤ 65535) : ∀ (m j : Nat) (acc : List Int) (b : List Int) (s : Bool), j + m = n → acc.length ≤ j → Bl b →
    itr R15_0 (m + 1) (z, (b, s, ()), (mode, scale, acc, consts, scales, code, ()), (n : Int), (j : Int), ()) = some (z, ((repS fSize m acc (b, s)).2.1, (repS fSize m acc (b, s)).2.2, ()), (mode, scale, (repS fSize m acc (b, s)).1, consts, scales, code, ()), ())
  | 0, j, acc, b, s, hj, ha, hb => by
    obtain ⟨z0, z1, z2, z3, z4, z5, ⟨⟩⟩ := z
    refine itr_out ?_
    unfold R15_0 Q15_0
    simp only []
    rw [bif_f (decide_eq_false (by omega))]
    rfl
  | m + 1, j, acc, b, s, hj, ha, hb => by
    obtain ⟨z0, z1, z2, z3, z4, z5, ⟨⟩⟩ := z
    have hs : R15_0 ((z0, z1, z2, z3, z4, z5, ()), (b, s, ()), (mode, scale, acc, consts, scales, code, ()), (n : Int), (j : Int), ()) = some (.inl ((z0, z1, z2, z3, z4, z5, ()), ((fSize (b, s)).2.1, (fSize (b, s)).2.2, ()), (mode, scale, acc ++ [(fSize (b, s)).1], consts, scales, code, ()), (n : Int), ((j + 1 : Nat) : Int), ())) := by
      unfold R15_0 Q15_0
      simp only []
      rw [bif_t (decide_eq_true (by omega)), show (8 : Int) = ((8 : Nat) : Int) from rfl, eTake hb s (by omega)]
      simp only [fl1, Option.bind_some]
      rw [bif_t (decide_eq_true (by omega))]
      simp only [Option.bind_some]
      rw [wsi (n := (j : Int) + 1) (by omega)]
      rfl
    rw [itr_in hs]
    have := d_sizes (z0, z1, z2, z3, z4, z5, ()) mode scale consts scales code hn m (j + 1) (acc ++ [(fSize (b, s)).1]) (fSize (b, s)).2.1 (fSize (b, s)).2.2 (by omega) (by simp; omega) (fo_size.bl hb s)
    exact this
theorem d_consts (z : Zf) (mode scale : Int) (sizes : List Int) (scales : List (List (Int × Int))) (code : List (Int × Int × Int)) {n : Nat} (hn : n ≤ 65535) : ∀ (m j : Nat) (acc : List (Int × Int)) (b : List Int) (s : Bool), j + m = n → acc.length ≤ j → Bl b →
    itr R15_2 (m + 1) (z, (b, s, ()), (mode, scale, sizes, acc, scales, code, ()), (n : Int), (j : Int), ()) = some (z, ((repS fWide m acc (b, s)).2.1, (repS fWide m acc (b, s)).2.2, ()), (mode, scale, sizes, (repS fWide m acc (b, s)).1, scales, code, ()), ())
  | 0, j, acc, b, s, hj, ha, hb => by
    obtain ⟨z0, z1, z2, z3, z4, z5, ⟨⟩⟩ := z
    refine itr_out ?_
    unfold R15_2 Q15_2
    simp only []
    rw [bif_f (decide_eq_false (by omega))]
    rfl
  | m + 1, j, acc, b, s, hj, ha, hb => by
    obtain ⟨z0, z1, z2, z3, z4, z5, ⟨⟩⟩ := z
    have hs : R15_2 ((z0, z1, z2, z3, z4, z5, ()), (b, s, ()), (mode, scale, sizes, acc, scales, code, ()), (n : Int), (j : Int), ()) = some (.inl ((z0, z1, z2, z3, z4, z5, ()), ((fWide (b, s)).2.1, (fWide (b, s)).2.2, ()), (mode, scale, sizes, acc ++ [(fWide (b, s)).1], scales, code, ()), (n : Int), ((j + 1 : Nat) : Int), ())) := by
      unfold R15_2 Q15_2
      simp only []
      rw [bif_t (decide_eq_true (by omega))]
      rw [show (8 : Int) = ((8 : Nat) : Int) from rfl, eTake hb s (by omega)]
      simp only [fl1, Option.bind_some]
      rw [eTake (hb.tk s 8) (tkS 8 (b, s)).2.2 (by omega)]
      simp only [fl1, Option.bind_some]
      rw [bif_t (decide_eq_true (by omega))]
      simp only [Option.bind_some]
      rw [wsi (n := (j : Int) + 1) (by omega)]
      rfl
    rw [itr_in hs]
    exact d_consts (z0, z1, z2, z3, z4, z5, ()) mode scale sizes scales code hn m (j + 1) (acc ++ [(fWide (b, s)).1]) (fWide (b, s)).2.1 (fWide (b, s)).2.2 (by omega) (by simp; omega) (fo_wide.bl hb s)
theorem d_code (z : Zf) (mode scale : Int) (sizes : List Int) (consts : List (Int × Int)) (scales : List (List (Int × Int))) {n : Nat} (hn : n ≤ 65535) : ∀ (m j : Nat) (acc : List (Int × Int × Int)) (b : List Int) (s : Bool), j + m = n → acc.length ≤ j → Bl b →
    itr R15_8 (m + 1) (z, (b, s, ()), (mode, scale, sizes, consts, scales, acc, ()), (n : Int), (j : Int), ()) = some (z, ((repS fInstr m acc (b, s)).2.1, (repS fInstr m acc (b, s)).2.2, ()), (mode, scale, sizes, consts, scales, (repS fInstr m acc (b, s)).1, ()), ())
  | 0, j, acc, b, s, hj, ha, hb => by
    obtain ⟨z0, z1, z2, z3, z4, z5, ⟨⟩⟩ := z
    refine itr_out ?_
    unfold R15_8 Q15_8
    simp only []
    rw [bif_f (decide_eq_false (by omega))]
    rfl
  | m + 1, j, acc, b, s, hj, ha, hb => by
    obtain ⟨z0, z1, z2, z3, z4, z5, ⟨⟩⟩ := z
    have hs : R15_8 ((z0, z1, z2, z3, z4, z5, ()), (b, s, ()), (mode, scale, sizes, consts, scales, acc, ()), (n : Int), (j : Int), ()) = some (.inl ((z0, z1, z2, z3, z4, z5, ()), ((fInstr (b, s)).2.1, (fInstr (b, s)).2.2, ()), (mode, scale, sizes, consts, scales, acc ++ [(fInstr (b, s)).1], ()), (n : Int), ((j + 1 : Nat) : Int), ())) := by
      unfold R15_8 Q15_8
      simp only []
      rw [bif_t (decide_eq_true (by omega))]
      have p1 : N21 ((b, s, ()), 1, ()) = some (fl1 (tkS 1 (b, s))) := eTake hb s (k := 1) (by omega)
      rw [p1]
      simp only [fl1, Option.bind_some]
      rw [show (2 : Int) = ((2 : Nat) : Int) from rfl, eTake (hb.tk s 1) (tkS 1 (b, s)).2.2 (by omega)]
      simp only [fl1, Option.bind_some]
      rw [eTake ((hb.tk s 1).tk (tkS 1 (b, s)).2.2 2) (tkS 2 (tkS 1 (b, s)).2).2.2 (by omega)]
      simp only [fl1, Option.bind_some]
      rw [bif_t (decide_eq_true (by omega))]
      simp only [Option.bind_some]
      rw [wsi (n := (j : Int) + 1) (by omega)]
      rfl
    rw [itr_in hs]
    exact d_code (z0, z1, z2, z3, z4, z5, ()) mode scale sizes consts scales hn m (j + 1) (acc ++ [(fInstr (b, s)).1]) (fInstr (b, s)).2.1 (fInstr (b, s)).2.2 (by omega) (by simp; omega) (fo_instr.bl hb s)
theorem d_tiers (z p : Zf) (N i : Int) {n : Nat} (hn : n ≤ 65535) : ∀ (m j : Nat) (acc : List (Int × Int)) (b : List Int) (s : Bool), j + m = n → acc.length ≤ j → Bl b →
    itr R15_6 (m + 1) (z, (b, s, ()), p, acc, N, i, (n : Int), (j : Int), ()) = some (z, ((repS fTier m acc (b, s)).2.1, (repS fTier m acc (b, s)).2.2, ()), p, (repS fTier m acc (b, s)).1, N, i, ())
  | 0, j, acc, b, s, hj, ha, hb => by
    obtain ⟨z0, z1, z2, z3, z4, z5, ⟨⟩⟩ := z
    obtain ⟨p0, p1, p2, p3, p4, p5, ⟨⟩⟩ := p
    refine itr_out ?_
    unfold R15_6 Q15_6
    simp only []
    rw [bif_f (decide_eq_false (by omega))]
    rfl
  | m + 1, j, acc, b, s, hj, ha, hb => by
    obtain ⟨z0, z1, z2, z3, z4, z5, ⟨⟩⟩ := z
    obtain ⟨p0, p1, p2, p3, p4, p5, ⟨⟩⟩ := p
    have hs : R15_6 ((z0, z1, z2, z3, z4, z5, ()), (b, s, ()), (p0, p1, p2, p3, p4, p5, ()), acc, N, i, (n : Int), (j : Int), ()) = some (.inl ((z0, z1, z2, z3, z4, z5, ()), ((fTier (b, s)).2.1, (fTier (b, s)).2.2, ()), (p0, p1, p2, p3, p4, p5, ()), acc ++ [(fTier (b, s)).1], N, i, (n : Int), ((j + 1 : Nat) : Int), ())) := by
      unfold R15_6 Q15_6
      simp only []
      rw [bif_t (decide_eq_true (by omega))]
      rw [show (8 : Int) = ((8 : Nat) : Int) from rfl, eTake hb s (by omega)]
      simp only [fl1, Option.bind_some]
      rw [eTake (hb.tk s 8) (tkS 8 (b, s)).2.2 (by omega)]
      simp only [fl1, Option.bind_some]
      rw [bif_t (decide_eq_true (by omega))]
      simp only [Option.bind_some]
      rw [wsi (n := (j : Int) + 1) (by omega)]
      rfl
    rw [itr_in hs]
    exact d_tiers (z0, z1, z2, z3, z4, z5, ()) (p0, p1, p2, p3, p4, p5, ()) N i hn m (j + 1) (acc ++ [(fTier (b, s)).1]) (fTier (b, s)).2.1 (fTier (b, s)).2.2 (by omega) (by simp; omega) (fo_tier.bl hb s)
theorem ctS_in {b : List Int} (hb : Bs b) (s : Bool) {k each : Nat} (hk : k ≤ 2) : 0 ≤ (ctS k each (b, s)).1 ∧ (ctS k each (b, s)).1 ≤ 65535 := by
  have := tkS_in hb s hk
  unfold ctS
  cases decide ((tkS k (b, s)).1 * (each : Int) > ((tkS k (b, s)).2.1.length : Int)) with
  | true => exact ⟨Int.le_refl _, by show (0 : Int) ≤ 65535; omega⟩
  | false => exact this
theorem Bl.ct {b : List Int} (h : Bl b) (s : Bool) (k each : Nat) : Bl (ctS k each (b, s)).2.1 := by
  unfold ctS
  cases decide ((tkS k (b, s)).1 * (each : Int) > ((tkS k (b, s)).2.1.length : Int)) with
  | true => exact h.tk s k
  | false => exact h.tk s k
theorem d_scales (z : Zf) (mode scale : Int) (sizes : List Int) (consts : List (Int × Int)) (code : List (Int × Int × Int)) {n : Nat} (hn : n ≤ 65535) : ∀ (m j : Nat) (acc : List (List (Int × Int))) (b : List Int) (s : Bool), j + m = n → acc.length ≤ j → Bl b →
    itr R15_4 (m + 1) (z, (b, s, ()), (mode, scale, sizes, consts, acc, code, ()), (n : Int), (j : Int), ()) = some (z, ((repS fTiers m acc (b, s)).2.1, (repS fTiers m acc (b, s)).2.2, ()), (mode, scale, sizes, consts, (repS fTiers m acc (b, s)).1, code, ()), ())
  | 0, j, acc, b, s, hj, ha, hb => by
    obtain ⟨z0, z1, z2, z3, z4, z5, ⟨⟩⟩ := z
    refine itr_out ?_
    unfold R15_4 Q15_4
    simp only []
    rw [bif_f (decide_eq_false (by omega))]
    rfl
  | m + 1, j, acc, b, s, hj, ha, hb => by
    obtain ⟨z0, z1, z2, z3, z4, z5, ⟨⟩⟩ := z
    have hs : R15_4 ((z0, z1, z2, z3, z4, z5, ()), (b, s, ()), (mode, scale, sizes, consts, acc, code, ()), (n : Int), (j : Int), ()) = some (.inl ((z0, z1, z2, z3, z4, z5, ()), ((fTiers (b, s)).2.1, (fTiers (b, s)).2.2, ()), (mode, scale, sizes, consts, acc ++ [(fTiers (b, s)).1], code, ()), (n : Int), ((j + 1 : Nat) : Int), ())) := by
      have p1 : N22 ((b, s, ()), 1, 16, ()) = some (fl1 (ctS 1 16 (b, s))) := eCount hb s (k := 1) (each := 16) (by omega) (by omega)
      have hc := ctS_in hb.1 s (k := 1) (each := 16) (by omega)
      have p2 := itrs_of (d_tiers (z0, z1, z2, z3, z4, z5, ()) (mode, scale, sizes, consts, acc, code, ()) (n : Int) (j : Int) (n := (ctS 1 16 (b, s)).1.toNat) (by omega) (ctS 1 16 (b, s)).1.toNat 0 [] (ctS 1 16 (b, s)).2.1 (ctS 1 16 (b, s)).2.2 (by omega) (Nat.le_refl _) (hb.ct s 1 16)) (by omega)
      rw [show (((ctS 1 16 (b, s)).1.toNat : Nat) : Int) = (ctS 1 16 (b, s)).1 from by omega, show ((0 : Nat) : Int) = 0 from rfl] at p2
      unfold R15_4 Q15_4
      simp only []
      rw [bif_t (decide_eq_true (by omega)), p1]
      simp only [fl1, Option.bind_some]
      rw [p2]
      simp only [Option.bind_some]
      rw [bif_t (decide_eq_true (by omega))]
      simp only [Option.bind_some]
      rw [wsi (n := (j : Int) + 1) (by omega)]
      rfl
    rw [itr_in hs]
    exact d_scales (z0, z1, z2, z3, z4, z5, ()) mode scale sizes consts code hn m (j + 1) (acc ++ [(fTiers (b, s)).1]) (fTiers (b, s)).2.1 (fTiers (b, s)).2.2 (by omega) (by simp; omega) (fo_tiers.bl hb s)
end Go.Proofs.Ytigjckjkhnokbaa.E
namespace Go.Proofs.Ytigjckjkhnokbaa.E
open Go
set_option linter.unusedVariables false
set_option maxRecDepth 100000
def fMany {α : Type} (k each : Nat) (f : Sg → α × Sg) : Sg → List α × Sg := bindS (ctS k each) fun n => repS f n.toNat []
def fPrg : Sg → Prg × Sg :=
  bindS (tkS 1) fun mode => bindS (tkS 1) fun scale => bindS (fMany 1 8 fSize) fun sizes => bindS (fMany 2 16 fWide) fun consts => bindS (fMany 2 1 fTiers) fun scales => bindS (fMany 2 5 fInstr) fun code => retS (s64 mode, s64 scale, sizes, consts, scales, code)
theorem takes_size : Takes 8 pSize := takes_bind (takes_pnum 8) fun x => takes_ret (s64 x)
theorem takes_wide : Takes 16 pWide := takes_bind (takes_pnum 8) fun lo => takes_bind (takes_pnum 8) fun hi => takes_ret (s64 hi, lo)
theorem takes_tiers : Takes 1 pTiers := takes_mono (takes_bind (n := 0) (takes_pnum 1) fun n => takes_mono (takes_rep takes_tier n.toNat) (Nat.zero_le _)) (Nat.le_refl _)
theorem takes_instr : Takes 5 pInstr := takes_bind (takes_pnum 1) fun a => takes_bind (takes_pnum 2) fun b => takes_bind (takes_pnum 2) fun c => takes_ret (s64 a, s64 b, s64 c)
theorem fo_prg : Fo fPrg pPrg :=
  fo_bind (fo_tk 1) fun mode => fo_bind (fo_tk 1) fun scale => fo_bind (fo_count fo_size takes_size) fun sizes => fo_bind (fo_count fo_wide takes_wide) fun consts => fo_bind (fo_count fo_tiers takes_tiers) fun scales => fo_bind (fo_count fo_instr takes_instr) fun code => fo_ret (s64 mode, s64 scale, sizes, consts, scales, code)
def zeroP : Prg := (0, 0, [], [], [], [])
def magic (b : List Int) : Bool := decide (b.take 4 = [79, 67, 84, 49])
def decans (b : List Int) : Prg × Int × Unit :=
  bif magic b then (match pPrg (b.drop 4) with
    | some (p, []) => bif chk p != 0 then (zeroP, 160, ()) else (p, 0, ())
    | _ => (zeroP, 160, ()))
  else (zeroP, 160, ())
theorem byte_eq {x : Int} (h : Byte x) {k : Nat} (hk : k ≤ 255) : (UInt8.ofNat x.toNat == UInt8.ofNat k) = decide (x = (k : Int)) := by
  unfold Byte at h
  obtain ⟨X, rfl⟩ := Int.eq_ofNat_of_zero_le h.1
  rw [Int.toNat_natCast, Bool.eq_iff_iff, beq_iff_eq, decide_eq_true_eq]
  constructor
  · intro e
    have := congrArg UInt8.toNat e
    simp only [UInt8.toNat_ofNat'] at this
    omega
  · intro e
    have : X = k := by omega
    rw [this]
theorem magic_eq {b : List Int} (hb : Bs b) (hl : 4 ≤ b.length) : (ByteArray.toList { data := List.toArray (List.map (fun n => UInt8.ofNat (Int.toNat n)) (List.take 4 (List.drop 0 b))) } == ByteArray.toList { data := #[79, 67, 84, 49] }) = magic b := by
  match b, hl with
  | x0 :: x1 :: x2 :: x3 :: r, _ =>
    have h0 := byte_eq (hb x0 (by simp)) (k := 79) (by omega)
    have h1 := byte_eq (hb x1 (by simp)) (k := 67) (by omega)
    have h2 := byte_eq (hb x2 (by simp)) (k := 84) (by omega)
    have h3 := byte_eq (hb x3 (by simp)) (k := 49) (by omega)
    rw [ByteArray.toList_eq, ByteArray.toList_eq]
    show ([UInt8.ofNat x0.toNat, UInt8.ofNat x1.toNat, UInt8.ofNat x2.toNat, UInt8.ofNat x3.toNat] == [UInt8.ofNat 79, UInt8.ofNat 67, UInt8.ofNat 84, UInt8.ofNat 49]) = _
    simp only [List.cons_beq_cons, h0, h1, h2, h3]
    unfold magic
    rw [Bool.eq_iff_iff]
    simp
theorem eTake1 {b : List Int} (hb : Bl b) (s : Bool) : N21 ((b, s, ()), 1, ()) = some (fl1 (tkS 1 (b, s))) := eTake hb s (k := 1) (by omega)
theorem eCount8 {b : List Int} (hb : Bl b) (s : Bool) : N22 ((b, s, ()), 1, 8, ()) = some (fl1 (ctS 1 8 (b, s))) := eCount hb s (k := 1) (each := 8) (by omega) (by omega)
theorem eCount16 {b : List Int} (hb : Bl b) (s : Bool) : N22 ((b, s, ()), 2, 16, ()) = some (fl1 (ctS 2 16 (b, s))) := eCount hb s (k := 2) (each := 16) (by omega) (by omega)
theorem eCount1 {b : List Int} (hb : Bl b) (s : Bool) : N22 ((b, s, ()), 2, 1, ()) = some (fl1 (ctS 2 1 (b, s))) := eCount hb s (k := 2) (each := 1) (by omega) (by omega)
theorem eCount5 {b : List Int} (hb : Bl b) (s : Bool) : N22 ((b, s, ()), 2, 5, ()) = some (fl1 (ctS 2 5 (b, s))) := eCount hb s (k := 2) (each := 5) (by omega) (by omega)
theorem nat_of {x : Int} (h : 0 ≤ x) : ((x.toNat : Nat) : Int) = x := by omega
theorem bl_rep {α : Type} {f : Sg → α × Sg} {p : Ps α} (h : Fo f p) {b : List Int} (hb : Bl b) (s : Bool) (n : Nat) : Bl (repS f n [] (b, s)).2.1 := (fo_rep h n).bl hb s
theorem repS_all {α : Type} {f : Sg → α × Sg} {p : Ps α} (hf : Fo f p) {A : α → Prop} (h : ∀ b s, Bs b → A (f (b, s)).1) : ∀ (n : Nat) (acc : List α) (b : List Int) (s : Bool), Bs b → (∀ x ∈ acc, A x) → ∀ x ∈ (repS f n acc (b, s)).1, A x
  | 0, acc, b, s, hb, ha => ha
  | n + 1, acc, b, s, hb, ha => repS_all hf h n (acc ++ [(f (b, s)).1]) (f (b, s)).2.1 (f (b, s)).2.2 (hf.keep b s hb).1 fun x hx => by
    rcases List.mem_append.1 hx with k | k
    · exact ha x k
    · rw [List.mem_singleton.1 k]; exact h b s hb
theorem tiers_small (b : List Int) (s : Bool) (hb : Bs b) : (fTiers (b, s)).1.length ≤ 140737488355328 := by
  have := ctS_in hb s (k := 1) (each := 16) (by omega)
  unfold fTiers bindS
  rw [repS_len]
  simp only [List.length_nil]
  omega
end Go.Proofs.Ytigjckjkhnokbaa.E
namespace Go.Proofs.Ytigjckjkhnokbaa.E
open Go
set_option linter.unusedVariables false
set_option maxRecDepth 100000
theorem eDecode {b : List Int} (hb : Bl b) : N15 (b, ()) = some (decans b) := by
  unfold N15 M15 decans
  simp only []
  by_cases h4 : b.length < 4
  · rw [bif_t (decide_eq_true (by omega))]
    have : magic b = false := by
      unfold magic
      rw [decide_eq_false_iff_not]
      intro e
      have := congrArg List.length e
      simp at this
      omega
    rw [this]
    rfl
  rw [bif_f (decide_eq_false (by omega)), bif_t (show (true && decide ((4 : Int) ≤ (b.length : Int))) = true from by rw [Bool.true_and]; exact decide_eq_true (by omega))]
  simp only [Option.bind_some]
  rw [magic_eq hb.1 (by omega)]
  cases magic b with
  | false => rfl
  | true =>
  simp only [Bool.not_true, cond_false, cond_true]
  rw [bif_t (show (true && decide ((4 : Int) ≤ (b.length : Int)) && decide ((b.length : Int) ≤ (b.length : Int))) = true from by rw [Bool.true_and, decide_eq_true (show (4 : Int) ≤ (b.length : Int) by omega), decide_eq_true (Int.le_refl _)]; rfl)]
  simp only [Option.bind_some]
  have hd : List.take (Int.toNat (b.length : Int) - 4) (List.drop 4 b) = b.drop 4 := by
    rw [Int.toNat_natCast]
    exact List.take_of_length_le (by rw [List.length_drop]; exact Nat.le_refl _)
  rw [hd]
  have hc : Bl (b.drop 4) := ⟨hb.1.drop 4, by have := hb.2; simp; omega⟩
  generalize b.drop 4 = c at *
  clear hd h4 hb
  have F := fo_prg
  -- one reader after the other
  rw [eTake1 hc false]
  have h1 := hc.tk false 1
  generalize e1 : tkS 1 (c, false) = t1 at *
  obtain ⟨v1, c1, s1⟩ := t1
  simp only [fl1, Option.bind_some] at h1 ⊢
  rw [eTake1 h1 s1]
  have h2 := h1.tk s1 1
  generalize e2 : tkS 1 (c1, s1) = t2 at *
  obtain ⟨v2, c2, s2⟩ := t2
  simp only [fl1, Option.bind_some] at h2 ⊢
  rw [eCount8 h2 s2]
  have h3 := h2.ct s2 1 8
  have n3 := ctS_in h2.1 s2 (k := 1) (each := 8) (by omega)
  generalize e3 : ctS 1 8 (c2, s2) = t3 at *
  obtain ⟨v3, c3, s3⟩ := t3
  simp only [fl1, Option.bind_some] at h3 n3 ⊢
  have L0 := itrs_of (d_sizes (0, 0, [], [], [], [], ()) (s64 v1) (s64 v2) [] [] [] (n := v3.toNat) (by omega) v3.toNat 0 [] c3 s3 (by omega) (Nat.le_refl _) h3) (by omega)
  rw [nat_of n3.1] at L0
  have L0 : itrs R15_0 ((0, 0, [], [], [], [], ()), (c3, s3, ()), (IntKind.wrap .i64 v1, IntKind.wrap .i64 v2, [], [], [], [], ()), v3, 0, ()) = _ := L0
  rw [L0]
  have h4 := bl_rep fo_size h3 s3 v3.toNat
  have l4 := repS_len fSize v3.toNat [] (c3, s3)
  generalize e4 : repS fSize v3.toNat [] (c3, s3) = t4 at *
  obtain ⟨sizes, c4, s4⟩ := t4
  simp only [Option.bind_some] at h4 l4 ⊢
  rw [eCount16 h4 s4]
  have h5 := h4.ct s4 2 16
  have n5 := ctS_in h4.1 s4 (k := 2) (each := 16) (by omega)
  generalize e5 : ctS 2 16 (c4, s4) = t5 at *
  obtain ⟨v5, c5, s5⟩ := t5
  simp only [fl1, Option.bind_some] at h5 n5 ⊢
  have L2 := itrs_of (d_consts (0, 0, [], [], [], [], ()) (s64 v1) (s64 v2) sizes [] [] (n := v5.toNat) (by omega) v5.toNat 0 [] c5 s5 (by omega) (Nat.le_refl _) h5) (by omega)
  rw [nat_of n5.1] at L2
  have L2 : itrs R15_2 ((0, 0, [], [], [], [], ()), (c5, s5, ()), (s64 v1, s64 v2, sizes, [], [], [], ()), v5, 0, ()) = _ := L2
  rw [L2]
  have h6 := bl_rep fo_wide h5 s5 v5.toNat
  have l6 := repS_len fWide v5.toNat [] (c5, s5)
  generalize e6 : repS fWide v5.toNat [] (c5, s5) = t6 at *
  obtain ⟨consts, c6, s6⟩ := t6
  simp only [Option.bind_some] at h6 l6 ⊢
  rw [eCount1 h6 s6]
  have h7 := h6.ct s6 2 1
  have n7 := ctS_in h6.1 s6 (k := 2) (each := 1) (by omega)
  generalize e7 : ctS 2 1 (c6, s6) = t7 at *
  obtain ⟨v7, c7, s7⟩ := t7
  simp only [fl1, Option.bind_some] at h7 n7 ⊢
  have L4 := itrs_of (d_scales (0, 0, [], [], [], [], ()) (s64 v1) (s64 v2) sizes consts [] (n := v7.toNat) (by omega) v7.toNat 0 [] c7 s7 (by omega) (Nat.le_refl _) h7) (by omega)
  rw [nat_of n7.1] at L4
  have L4 : itrs R15_4 ((0, 0, [], [], [], [], ()), (c7, s7, ()), (s64 v1, s64 v2, sizes, consts, [], [], ()), v7, 0, ()) = _ := L4
  rw [L4]
  have h8 := bl_rep fo_tiers h7 s7 v7.toNat
  have l8 := repS_len fTiers v7.toNat [] (c7, s7)
  have a8 := repS_all (A := fun t => t.length ≤ 140737488355328) fo_tiers tiers_small v7.toNat [] c7 s7 h7.1 (fun x hx => by cases hx)
  generalize e8 : repS fTiers v7.toNat [] (c7, s7) = t8 at *
  obtain ⟨scales, c8, s8⟩ := t8
  simp only [Option.bind_some] at h8 l8 a8 ⊢
  rw [eCount5 h8 s8]
  have h9 := h8.ct s8 2 5
  have n9 := ctS_in h8.1 s8 (k := 2) (each := 5) (by omega)
  generalize e9 : ctS 2 5 (c8, s8) = t9 at *
  obtain ⟨v9, c9, s9⟩ := t9
  simp only [fl1, Option.bind_some] at h9 n9 ⊢
  have L8 := itrs_of (d_code (0, 0, [], [], [], [], ()) (s64 v1) (s64 v2) sizes consts scales (n := v9.toNat) (by omega) v9.toNat 0 [] c9 s9 (by omega) (Nat.le_refl _) h9) (by omega)
  rw [nat_of n9.1] at L8
  have L8 : itrs R15_8 ((0, 0, [], [], [], [], ()), (c9, s9, ()), (s64 v1, s64 v2, sizes, consts, scales, [], ()), v9, 0, ()) = _ := L8
  rw [L8]
  have l10 := repS_len fInstr v9.toNat [] (c9, s9)
  generalize e10 : repS fInstr v9.toNat [] (c9, s9) = t10 at *
  obtain ⟨code, c10, s10⟩ := t10
  simp only [Option.bind_some] at l10 ⊢
  have eF : fPrg (c, false) = ((s64 v1, s64 v2, sizes, consts, scales, code), (c10, s10)) := by
    simp only [fPrg, fMany, bindS, retS, e1, e2, e3, e4, e5, e6, e7, e8, e9, e10]
  have hs : Small (s64 v1, s64 v2, sizes, consts, scales, code) := ⟨by simp only [List.length_nil] at l4; simp only; omega, by simp only [List.length_nil] at l6; simp only; omega, by simp only [List.length_nil] at l8; simp only; omega, by simp only [List.length_nil] at l10; simp only; omega, a8⟩
  cases hp : pPrg c with
  | none =>
    have := F.bad c hc.1 hp
    rw [eF] at this
    have : s10 = true := this
    subst this
    rfl
  | some x =>
    obtain ⟨q, l⟩ := x
    have := F.ok c q l hc.1 hp
    rw [eF] at this
    injection this with k1 k2
    injection k2 with k2 k3
    subst k1 k2 k3
    simp only [cond_false]
    cases c10 with
    | nil =>
      rw [bif_f (show decide ((([] : List Int).length : Int) > 0) = false from rfl), echeck hs]
      simp only [Option.bind_some]
      cases chk (s64 v1, s64 v2, sizes, consts, scales, code) != 0 <;> rfl
    | cons y r =>
      rw [bif_t (decide_eq_true (by simp))]
      rfl
end Go.Proofs.Ytigjckjkhnokbaa.E
namespace Go.Proofs.Ytigjckjkhnokbaa.E
open Go
set_option linter.unusedVariables false
set_option maxRecDepth 100000
/-- The reference's reader: it answers 0 once it is short. -/
def nkS (k : Nat) (st : Sg) : Int × Sg := bif st.2 then (0, st) else tkS k st
theorem fo_nk (k : Nat) : Fo (nkS k) (pnum k) := by
  have h := fo_tk k
  refine ⟨fun b s hb => ?_, fun b hb => rfl, fun b v l hb e => h.ok b v l hb e, fun b hb e => h.bad b hb e⟩
  cases s with
  | true => exact ⟨hb, Nat.le_refl _⟩
  | false => exact h.keep b false hb
/-- Rounds that end once the reader is short. -/
def repN {α : Type} (f : Sg → α × Sg) : Nat → List α → Sg → List α × Sg
  | 0, acc, st => (acc, st)
  | n + 1, acc, st => bif st.2 then (acc, st) else repN f n (acc ++ [(f st).1]) (f st).2
theorem repN_true {α : Type} (f : Sg → α × Sg) (n : Nat) (acc : List α) (b : List Int) : repN f n acc (b, true) = (acc, (b, true)) := by cases n <;> rfl
theorem repN_keep {α : Type} {f : Sg → α × Sg} {p : Ps α} (h : Fo f p) : ∀ (n : Nat) (acc : List α) (b : List Int) (s : Bool), Bs b → Bs (repN f n acc (b, s)).2.1 ∧ (repN f n acc (b, s)).2.1.length ≤ b.length
  | 0, acc, b, s, hb => ⟨hb, Nat.le_refl _⟩
  | n + 1, acc, b, true, hb => ⟨hb, Nat.le_refl _⟩
  | n + 1, acc, b, false, hb => by
    obtain ⟨h1, h2⟩ := h.keep b false hb
    obtain ⟨h3, h4⟩ := repN_keep h n (acc ++ [(f (b, false)).1]) (f (b, false)).2.1 (f (b, false)).2.2 h1
    exact ⟨h3, Nat.le_trans h4 h2⟩
theorem repN_ok {α : Type} {f : Sg → α × Sg} {p : Ps α} (h : Fo f p) : ∀ (n : Nat) (acc : List α) (b : List Int), Bs b →
    match rep p n b with
    | some (r, l) => repN f n acc (b, false) = (acc ++ r, (l, false))
    | none => (repN f n acc (b, false)).2.2 = true
  | 0, acc, b, hb => by
    show repN f 0 acc (b, false) = (acc ++ [], (b, false))
    rw [List.append_nil]
    rfl
  | n + 1, acc, b, hb => by
    have ih := fun acc l (hl : Bs l) => repN_ok h n acc l hl
    have e : repN f (n + 1) acc (b, false) = repN f n (acc ++ [(f (b, false)).1]) (f (b, false)).2 := rfl
    rw [e]
    unfold rep Ps.bind
    cases hp : p b with
    | none =>
      have h1 := h.bad b hb hp
      simp only
      rw [show (f (b, false)).2 = ((f (b, false)).2.1, true) from Prod.ext rfl h1, repN_true]
    | some x =>
      obtain ⟨a, l⟩ := x
      have h1 := h.ok b a l hb hp
      have hl : Bs l := by have := (h.keep b false hb).1; rw [h1] at this; exact this
      rw [h1]
      have := ih (acc ++ [a]) l hl
      simp only
      cases hr : rep p n l with
      | none => rw [hr] at this; exact this
      | some y =>
        obtain ⟨r, l'⟩ := y
        rw [hr] at this
        simp only [Ps.ret] at this ⊢
        rw [this]
        simp
theorem fo_repN {α : Type} {f : Sg → α × Sg} {p : Ps α} (h : Fo f p) (n : Nat) : Fo (repN f n []) (rep p n) := by
  refine ⟨fun b s hb => repN_keep h n [] b s hb, fun b hb => by rw [repN_true], fun b v l hb e => ?_, fun b hb e => ?_⟩
  · have := repN_ok h n [] b hb
    rw [e] at this
    simpa using this
  · have := repN_ok h n [] b hb
    rw [e] at this
    exact this
def rst (B : List Int) (x : Sg) : List Int × Int × Bool × Unit := (B, ((B.length - x.1.length : Nat) : Int), x.2, ())
/-- What is left of the bytes. -/
def Suf (B l : List Int) : Prop := ∃ k, k ≤ B.length ∧ l = B.drop k
theorem Suf.bl {B l : List Int} (h : Suf B l) (hB : Bl B) : Bl l := by
  obtain ⟨k, h1, rfl⟩ := h
  refine ⟨hB.1.drop k, ?_⟩
  have := hB.2
  rw [List.length_drop]
  omega
theorem Suf.nk {B l : List Int} (h : Suf B l) (s : Bool) (k : Nat) : Suf B (nkS k (l, s)).2.1 := by
  obtain ⟨m, h1, rfl⟩ := h
  unfold nkS tkS
  cases s with
  | true => exact ⟨m, h1, rfl⟩
  | false =>
    simp only [cond_false]
    cases hd : decide ((B.drop m).length < k) with
    | true => exact ⟨m, h1, rfl⟩
    | false =>
      have := of_decide_eq_false hd
      rw [List.length_drop] at this
      exact ⟨m + k, by omega, by rw [cond_false, List.drop_drop]⟩
theorem rnum_loop {B : List Int} (hB : Bl B) {at_ k : Nat} (hk : k ≤ 8) (hl : at_ + k ≤ B.length) : ∀ (m : Nat), m ≤ k →
    itr R25_0 (m + 1) ((B, (at_ : Int), false, ()), (k : Int), num (((B.drop at_).take k).drop m), (m : Int) - 1, ()) = some ((B, (at_ : Int), false, ()), (k : Int), num ((B.drop at_).take k), ())
  | 0, _ => by
    refine itr_out ?_
    unfold R25_0 Q25_0
    simp only []
    rw [bif_f (decide_eq_false (by omega)), List.drop_zero]
  | m + 1, hm => by
    have hbig := hB.2
    have hlen : ((B.drop at_).take k).length = k := by rw [List.length_take, List.length_drop]; omega
    have hmk : m < ((B.drop at_).take k).length := by omega
    have hbm : B[at_ + m] = ((B.drop at_).take k)[m] := by simp
    have hx := hB.1 B[at_ + m] (List.getElem_mem (by omega))
    unfold Byte at hx
    obtain ⟨n0, n1⟩ := num_in (((B.drop at_).take k).drop (m + 1)) fun y hy => hB.1 y (List.mem_of_mem_drop (List.mem_of_mem_take (List.mem_of_mem_drop hy)))
    rw [List.length_drop, hlen] at n1
    have hp := pow256 (m := k - (m + 1)) (by omega)
    have hs : R25_0 ((B, (at_ : Int), false, ()), (k : Int), num (((B.drop at_).take k).drop (m + 1)), ((m + 1 : Nat) : Int) - 1, ()) = some (.inl ((B, (at_ : Int), false, ()), (k : Int), num (((B.drop at_).take k).drop m), (m : Int) - 1, ())) := by
      unfold R25_0 Q25_0
      simp only []
      rw [show ((m + 1 : Nat) : Int) - 1 = (m : Int) from by omega, bif_t (decide_eq_true (by omega)), wsi (n := (at_ : Int) + (m : Int)) (by omega), show (at_ : Int) + (m : Int) = ((at_ + m : Nat) : Int) from by omega, at_get (show at_ + m < B.length by omega)]
      simp only [Option.bind_some]
      rw [wui (n := num (((B.drop at_).take k).drop (m + 1)) * 256) (by omega), wui (n := B[at_ + m]) (by omega), wui (by omega), wsi (by omega), List.drop_eq_getElem_cons hmk]
      simp only [num]
      rw [← hbm, show num (((B.drop at_).take k).drop (m + 1)) * 256 + B[at_ + m] = B[at_ + m] + 256 * num (((B.drop at_).take k).drop (m + 1)) from by omega]
    rw [itr_in hs]
    exact rnum_loop hB hk hl m (by omega)
theorem rNumber {B l : List Int} (hB : Bl B) (hl : Suf B l) (s : Bool) {k : Nat} (hk : 1 ≤ k ∧ k ≤ 8) : N25 (rst B (l, s), (k : Int), ()) = some ((nkS k (l, s)).1, rst B (nkS k (l, s)).2, ()) := by
  have hbig := hB.2
  obtain ⟨m, h1, rfl⟩ := hl
  unfold N25 M25 rst nkS
  simp only []
  cases s with
  | true => rfl
  | false =>
    simp only [cond_false]
    have hat : ((B.length - (B.drop m).length : Nat) : Int) = (m : Int) := by rw [List.length_drop]; omega
    rw [hat, wsi (n := (B.length : Int) - (m : Int)) (by omega)]
    unfold tkS
    cases hd : decide ((B.drop m).length < k) with
    | true =>
      have := of_decide_eq_true hd
      rw [List.length_drop] at this
      rw [bif_t (decide_eq_true (by omega))]
      simp only [cond_true]
      rw [hat]
    | false =>
      have := of_decide_eq_false hd
      rw [List.length_drop] at this
      rw [bif_f (decide_eq_false (by omega)), wsi (n := (k : Int) - 1) (by omega)]
      have L := itrs_of (rnum_loop hB hk.2 (show m + k ≤ B.length by omega) k (Nat.le_refl _)) (by omega)
      rw [List.drop_eq_nil_of_le (by rw [List.length_take, List.length_drop]; omega)] at L
      have L : itrs R25_0 ((B, (m : Int), false, ()), (k : Int), 0, (k : Int) - 1, ()) = _ := L
      rw [L]
      simp only [Option.bind_some, cond_false]
      rw [wsi (by omega), show (m : Int) + (k : Int) = ((B.length - ((B.drop m).drop k).length : Nat) : Int) from by rw [List.length_drop, List.length_drop]; omega]
end Go.Proofs.Ytigjckjkhnokbaa.E
namespace Go.Proofs.Ytigjckjkhnokbaa.E
open Go
set_option linter.unusedVariables false
set_option maxRecDepth 100000
def gSize : Sg → Int × Sg := bindS (nkS 8) fun x => retS (s64 x)
def gWide : Sg → (Int × Int) × Sg := bindS (nkS 8) fun lo => bindS (nkS 8) fun hi => retS (s64 hi, lo)
def gTier : Sg → (Int × Int) × Sg := bindS (nkS 8) fun a => bindS (nkS 8) fun b => retS (s64 a, s64 b)
def gTiers : Sg → List (Int × Int) × Sg := bindS (nkS 1) fun n => repN gTier n.toNat []
def gInstr : Sg → (Int × Int × Int) × Sg := bindS (nkS 1) fun a => bindS (nkS 2) fun b => bindS (nkS 2) fun c => retS (s64 a, s64 b, s64 c)
theorem go_size : Fo gSize pSize := fo_bind (fo_nk 8) fun x => fo_ret (s64 x)
theorem go_wide : Fo gWide pWide := fo_bind (fo_nk 8) fun lo => fo_bind (fo_nk 8) fun hi => fo_ret (s64 hi, lo)
theorem go_tier : Fo gTier pTier := fo_bind (fo_nk 8) fun a => fo_bind (fo_nk 8) fun b => fo_ret (s64 a, s64 b)
theorem go_tiers : Fo gTiers pTiers := fo_bind (fo_nk 1) fun n => fo_repN go_tier n.toNat
theorem go_instr : Fo gInstr pInstr := fo_bind (fo_nk 1) fun a => fo_bind (fo_nk 2) fun b => fo_bind (fo_nk 2) fun c => fo_ret (s64 a, s64 b, s64 c)
theorem nkS_in {b : List Int} (hb : Bs b) (s : Bool) {k : Nat} (hk : k ≤ 2) : 0 ≤ (nkS k (b, s)).1 ∧ (nkS k (b, s)).1 ≤ 65535 := by
  unfold nkS
  cases s with
  | true => exact ⟨Int.le_refl _, by show (0 : Int) ≤ 65535; omega⟩
  | false => exact tkS_in hb false hk
theorem rNum1 {B l : List Int} (hB : Bl B) (hl : Suf B l) (s : Bool) : N25 (rst B (l, s), 1, ()) = some ((nkS 1 (l, s)).1, rst B (nkS 1 (l, s)).2, ()) := rNumber hB hl s (k := 1) (by omega)
theorem rNum2 {B l : List Int} (hB : Bl B) (hl : Suf B l) (s : Bool) : N25 (rst B (l, s), 2, ()) = some ((nkS 2 (l, s)).1, rst B (nkS 2 (l, s)).2, ()) := rNumber hB hl s (k := 2) (by omega)
theorem rNum8 {B l : List Int} (hB : Bl B) (hl : Suf B l) (s : Bool) : N25 (rst B (l, s), 8, ()) = some ((nkS 8 (l, s)).1, rst B (nkS 8 (l, s)).2, ()) := rNumber hB hl s (k := 8) (by omega)
theorem Suf.size {B l : List Int} (h : Suf B l) (s : Bool) : Suf B (gSize (l, s)).2.1 := h.nk s 8
theorem Suf.wide {B l : List Int} (h : Suf B l) (s : Bool) : Suf B (gWide (l, s)).2.1 := (h.nk s 8).nk (nkS 8 (l, s)).2.2 8
theorem Suf.tier {B l : List Int} (h : Suf B l) (s : Bool) : Suf B (gTier (l, s)).2.1 := (h.nk s 8).nk (nkS 8 (l, s)).2.2 8
theorem Suf.instr {B l : List Int} (h : Suf B l) (s : Bool) : Suf B (gInstr (l, s)).2.1 := ((h.nk s 1).nk (nkS 1 (l, s)).2.2 2).nk (nkS 2 (nkS 1 (l, s)).2).2.2 2
theorem suf_rep {α : Type} {f : Sg → α × Sg} {B : List Int} (h : ∀ l s, Suf B l → Suf B (f (l, s)).2.1) : ∀ (n : Nat) (acc : List α) (l : List Int) (s : Bool), Suf B l → Suf B (repN f n acc (l, s)).2.1
  | 0, acc, l, s, hl => hl
  | n + 1, acc, l, true, hl => hl
  | n + 1, acc, l, false, hl => suf_rep h n (acc ++ [(f (l, false)).1]) (f (l, false)).2.1 (f (l, false)).2.2 (h l false hl)
theorem Suf.tiers {B l : List Int} (h : Suf B l) (s : Bool) : Suf B (gTiers (l, s)).2.1 := suf_rep (fun l s h => h.tier s) _ [] _ _ (h.nk s 1)
theorem t_tiers  {B : List Int} (hB : Bl B) {n : Nat} (hn : n ≤ 65535) : ∀ (m j : Nat) (acc : List (Int × Int)) (l : List Int) (s : Bool), j + m = n → acc.length ≤ j → Suf B l →
    itr R26_0 (m + 1) (rst B (l, s), acc, (n : Int), (j : Int), ()) = some (rst B (repN gTier m acc (l, s)).2, (repN gTier m acc (l, s)).1, ())
  | 0, j, acc, l, s, hj, ha, hb => by
    refine itr_out ?_
    unfold R26_0 Q26_0 rst
    simp only []
    rw [bif_f (decide_eq_false (by omega))]
    rfl
  | m + 1, j, acc, l, true, hj, ha, hb => by
    refine itr_out ?_
    unfold R26_0 Q26_0 rst
    simp only []
    rw [bif_t (decide_eq_true (by omega))]
    rfl
  | m + 1, j, acc, l, false, hj, ha, hb => by
    have hs : R26_0 (rst B (l, false), acc, (n : Int), (j : Int), ()) = some (.inl (rst B (gTier (l, false)).2, acc ++ [(gTier (l, false)).1], (n : Int), ((j + 1 : Nat) : Int), ())) := by
      unfold R26_0 Q26_0
      simp only [rst]
      rw [bif_t (decide_eq_true (by omega))]
      simp only [Bool.not_false, cond_true]
      have q0 := rNum8 hB (hb) false
      simp only [rst] at q0
      rw [q0]
      simp only [Option.bind_some]
      have q1 := rNum8 hB ((hb).nk false 8) ((nkS 8 (l, false)).2).2
      simp only [rst] at q1
      rw [q1]
      simp only [Option.bind_some]
      rw [bif_t (decide_eq_true (by omega))]
      simp only [Option.bind_some]
      rw [wsi (n := (j : Int) + 1) (by omega)]
      rfl
    rw [itr_in hs]
    exact t_tiers  hB hn m (j + 1) (acc ++ [(gTier (l, false)).1]) (gTier (l, false)).2.1 (gTier (l, false)).2.2 (by omega) (by simp; omega) (hb.tier false)
theorem rScale {B l : List Int} (hB : Bl B) (hl : Suf B l) (s : Bool) : N26 (rst B (l, s), ()) = some ((gTiers (l, s)).1, rst B (gTiers (l, s)).2, ()) := by
  have hv := nkS_in (hl.bl hB).1 s (k := 1) (by omega)
  unfold N26 M26
  have q := rNum1 hB hl s
  simp only [rst] at q ⊢
  rw [q]
  simp only [Option.bind_some]
  rw [wsi (n := (nkS 1 (l, s)).1) (by omega)]
  have L := itrs_of (t_tiers hB (n := (nkS 1 (l, s)).1.toNat) (by omega) (nkS 1 (l, s)).1.toNat 0 [] (nkS 1 (l, s)).2.1 (nkS 1 (l, s)).2.2 (by omega) (Nat.le_refl _) (hl.nk s 1)) (by omega)
  rw [nat_of hv.1] at L
  simp only [rst] at L
  have L2 : itrs R26_0 ((B, ((B.length - (nkS 1 (l, s)).2.1.length : Nat) : Int), (nkS 1 (l, s)).2.2, ()), [], (nkS 1 (l, s)).1, 0, ()) = _ := L
  rw [L2]
  rfl
theorem t_sizes (bb : List Int) (z : Zf) (mode scale : Int) (consts : List (Int × Int)) (scales : List (List (Int × Int))) (code : List (Int × Int × Int)) {B : List Int} (hB : Bl B) {n : Nat} (hn : n ≤ 65535) : ∀ (m j : Nat) (acc : List Int) (l : List Int) (s : Bool), j + m = n → acc.length ≤ j → Suf B l →
    itr R17_0 (m + 1) (bb, z, rst B (l, s), (mode, scale, acc, consts, scales, code, ()), (n : Int), (j : Int), ()) = some (bb, z, rst B (repN gSize m acc (l, s)).2, (mode, scale, (repN gSize m acc (l, s)).1, consts, scales, code, ()), ())
  | 0, j, acc, l, s, hj, ha, hb => by
    obtain ⟨z0, z1, z2, z3, z4, z5, ⟨⟩⟩ := z
    refine itr_out ?_
    unfold R17_0 Q17_0 rst
    simp only []
    rw [bif_f (decide_eq_false (by omega))]
    rfl
  | m + 1, j, acc, l, true, hj, ha, hb => by
    obtain ⟨z0, z1, z2, z3, z4, z5, ⟨⟩⟩ := z
    refine itr_out ?_
    unfold R17_0 Q17_0 rst
    simp only []
    rw [bif_t (decide_eq_true (by omega))]
    rfl
  | m + 1, j, acc, l, false, hj, ha, hb => by
    obtain ⟨z0, z1, z2, z3, z4, z5, ⟨⟩⟩ := z
    have hs : R17_0 (bb, (z0, z1, z2, z3, z4, z5, ()), rst B (l, false), (mode, scale, acc, consts, scales, code, ()), (n : Int), (j : Int), ()) = some (.inl (bb, (z0, z1, z2, z3, z4, z5, ()), rst B (gSize (l, false)).2, (mode, scale, acc ++ [(gSize (l, false)).1], consts, scales, code, ()), (n : Int), ((j + 1 : Nat) : Int), ())) := by
      unfold R17_0 Q17_0
      simp only [rst]
      rw [bif_t (decide_eq_true (by omega))]
      simp only [Bool.not_false, cond_true]
      have q0 := rNum8 hB (hb) false
      simp only [rst] at q0
      rw [q0]
      simp only [Option.bind_some]
      rw [bif_t (decide_eq_true (by omega))]
      simp only [Option.bind_some]
      rw [wsi (n := (j : Int) + 1) (by omega)]
      rfl
    rw [itr_in hs]
    exact t_sizes bb (z0, z1, z2, z3, z4, z5, ()) mode scale consts scales code hB hn m (j + 1) (acc ++ [(gSize (l, false)).1]) (gSize (l, false)).2.1 (gSize (l, false)).2.2 (by omega) (by simp; omega) (hb.size false)
theorem t_consts (bb : List Int) (z : Zf) (mode scale : Int) (sizes : List Int) (scales : List (List (Int × Int))) (code : List (Int × Int × Int)) {B : List Int} (hB : Bl B) {n : Nat} (hn : n ≤ 65535) : ∀ (m j : Nat) (acc : List (Int × Int)) (l : List Int) (s : Bool), j + m = n → acc.length ≤ j → Suf B l →
    itr R17_2 (m + 1) (bb, z, rst B (l, s), (mode, scale, sizes, acc, scales, code, ()), (n : Int), (j : Int), ()) = some (bb, z, rst B (repN gWide m acc (l, s)).2, (mode, scale, sizes, (repN gWide m acc (l, s)).1, scales, code, ()), ())
  | 0, j, acc, l, s, hj, ha, hb => by
    obtain ⟨z0, z1, z2, z3, z4, z5, ⟨⟩⟩ := z
    refine itr_out ?_
    unfold R17_2 Q17_2 rst
    simp only []
    rw [bif_f (decide_eq_false (by omega))]
    rfl
  | m + 1, j, acc, l, true, hj, ha, hb => by
    obtain ⟨z0, z1, z2, z3, z4, z5, ⟨⟩⟩ := z
    refine itr_out ?_
    unfold R17_2 Q17_2 rst
    simp only []
    rw [bif_t (decide_eq_true (by omega))]
    rfl
  | m + 1, j, acc, l, false, hj, ha, hb => by
    obtain ⟨z0, z1, z2, z3, z4, z5, ⟨⟩⟩ := z
    have hs : R17_2 (bb, (z0, z1, z2, z3, z4, z5, ()), rst B (l, false), (mode, scale, sizes, acc, scales, code, ()), (n : Int), (j : Int), ()) = some (.inl (bb, (z0, z1, z2, z3, z4, z5, ()), rst B (gWide (l, false)).2, (mode, scale, sizes, acc ++ [(gWide (l, false)).1], scales, code, ()), (n : Int), ((j + 1 : Nat) : Int), ())) := by
      unfold R17_2 Q17_2
      simp only [rst]
      rw [bif_t (decide_eq_true (by omega))]
      simp only [Bool.not_false, cond_true]
      have q0 := rNum8 hB (hb) false
      simp only [rst] at q0
      rw [q0]
      simp only [Option.bind_some]
      have q1 := rNum8 hB ((hb).nk false 8) ((nkS 8 (l, false)).2).2
      simp only [rst] at q1
      rw [q1]
      simp only [Option.bind_some]
      rw [bif_t (decide_eq_true (by omega))]
      simp only [Option.bind_some]
      rw [wsi (n := (j : Int) + 1) (by omega)]
      rfl
    rw [itr_in hs]
    exact t_consts bb (z0, z1, z2, z3, z4, z5, ()) mode scale sizes scales code hB hn m (j + 1) (acc ++ [(gWide (l, false)).1]) (gWide (l, false)).2.1 (gWide (l, false)).2.2 (by omega) (by simp; omega) (hb.wide false)
theorem t_scales (bb : List Int) (z : Zf) (mode scale : Int) (sizes : List Int) (consts : List (Int × Int)) (code : List (Int × Int × Int)) {B : List Int} (hB : Bl B) {n : Nat} (hn : n ≤ 65535) : ∀ (m j : Nat) (acc : List (List (Int × Int))) (l : List Int) (s : Bool), j + m = n → acc.length ≤ j → Suf B l →
    itr R17_4 (m + 1) (bb, z, rst B (l, s), (mode, scale, sizes, consts, acc, code, ()), (n : Int), (j : Int), ()) = some (bb, z, rst B (repN gTiers m acc (l, s)).2, (mode, scale, sizes, consts, (repN gTiers m acc (l, s)).1, code, ()), ())
  | 0, j, acc, l, s, hj, ha, hb => by
    obtain ⟨z0, z1, z2, z3, z4, z5, ⟨⟩⟩ := z
    refine itr_out ?_
    unfold R17_4 Q17_4 rst
    simp only []
    rw [bif_f (decide_eq_false (by omega))]
    rfl
  | m + 1, j, acc, l, true, hj, ha, hb => by
    obtain ⟨z0, z1, z2, z3, z4, z5, ⟨⟩⟩ := z
    refine itr_out ?_
    unfold R17_4 Q17_4 rst
    simp only []
    rw [bif_t (decide_eq_true (by omega))]
    rfl
  | m + 1, j, acc, l, false, hj, ha, hb => by
    obtain ⟨z0, z1, z2, z3, z4, z5, ⟨⟩⟩ := z
    have hs : R17_4 (bb, (z0, z1, z2, z3, z4, z5, ()), rst B (l, false), (mode, scale, sizes, consts, acc, code, ()), (n : Int), (j : Int), ()) = some (.inl (bb, (z0, z1, z2, z3, z4, z5, ()), rst B (gTiers (l, false)).2, (mode, scale, sizes, consts, acc ++ [(gTiers (l, false)).1], code, ()), (n : Int), ((j + 1 : Nat) : Int), ())) := by
      unfold R17_4 Q17_4
      simp only [rst]
      rw [bif_t (decide_eq_true (by omega))]
      simp only [Bool.not_false, cond_true]
      have q0 := rScale hB hb false
      simp only [rst] at q0
      rw [q0]
      simp only [Option.bind_some]
      rw [bif_t (decide_eq_true (by omega))]
      simp only [Option.bind_some]
      rw [wsi (n := (j : Int) + 1) (by omega)]
      rfl
    rw [itr_in hs]
    exact t_scales bb (z0, z1, z2, z3, z4, z5, ()) mode scale sizes consts code hB hn m (j + 1) (acc ++ [(gTiers (l, false)).1]) (gTiers (l, false)).2.1 (gTiers (l, false)).2.2 (by omega) (by simp; omega) (hb.tiers false)
theorem t_code (bb : List Int) (z : Zf) (mode scale : Int) (sizes : List Int) (consts : List (Int × Int)) (scales : List (List (Int × Int))) {B : List Int} (hB : Bl B) {n : Nat} (hn : n ≤ 65535) : ∀ (m j : Nat) (acc : List (Int × Int × Int)) (l : List Int) (s : Bool), j + m = n → acc.length ≤ j → Suf B l →
    itr R17_6 (m + 1) (bb, z, rst B (l, s), (mode, scale, sizes, consts, scales, acc, ()), (n : Int), (j : Int), ()) = some (bb, z, rst B (repN gInstr m acc (l, s)).2, (mode, scale, sizes, consts, scales, (repN gInstr m acc (l, s)).1, ()), ())
  | 0, j, acc, l, s, hj, ha, hb => by
    obtain ⟨z0, z1, z2, z3, z4, z5, ⟨⟩⟩ := z
    refine itr_out ?_
    unfold R17_6 Q17_6 rst
    simp only []
    rw [bif_f (decide_eq_false (by omega))]
    rfl
  | m + 1, j, acc, l, true, hj, ha, hb => by
    obtain ⟨z0, z1, z2, z3, z4, z5, ⟨⟩⟩ := z
    refine itr_out ?_
    unfold R17_6 Q17_6 rst
    simp only []
    rw [bif_t (decide_eq_true (by omega))]
    rfl
  | m + 1, j, acc, l, false, hj, ha, hb => by
    obtain ⟨z0, z1, z2, z3, z4, z5, ⟨⟩⟩ := z
    have hs : R17_6 (bb, (z0, z1, z2, z3, z4, z5, ()), rst B (l, false), (mode, scale, sizes, consts, scales, acc, ()), (n : Int), (j : Int), ()) = some (.inl (bb, (z0, z1, z2, z3, z4, z5, ()), rst B (gInstr (l, false)).2, (mode, scale, sizes, consts, scales, acc ++ [(gInstr (l, false)).1], ()), (n : Int), ((j + 1 : Nat) : Int), ())) := by
      unfold R17_6 Q17_6
      simp only [rst]
      rw [bif_t (decide_eq_true (by omega))]
      simp only [Bool.not_false, cond_true]
      have q0 := rNum1 hB (hb) false
      simp only [rst] at q0
      rw [q0]
      simp only [Option.bind_some]
      have q1 := rNum2 hB ((hb).nk false 1) ((nkS 1 (l, false)).2).2
      simp only [rst] at q1
      rw [q1]
      simp only [Option.bind_some]
      have q2 := rNum2 hB (((hb).nk false 1).nk ((nkS 1 (l, false)).2).2 2) ((nkS 2 (nkS 1 (l, false)).2).2).2
      simp only [rst] at q2
      rw [q2]
      simp only [Option.bind_some]
      rw [bif_t (decide_eq_true (by omega))]
      simp only [Option.bind_some]
      rw [wsi (n := (j : Int) + 1) (by omega)]
      rfl
    rw [itr_in hs]
    exact t_code bb (z0, z1, z2, z3, z4, z5, ()) mode scale sizes consts scales hB hn m (j + 1) (acc ++ [(gInstr (l, false)).1]) (gInstr (l, false)).2.1 (gInstr (l, false)).2.2 (by omega) (by simp; omega) (hb.instr false)
end Go.Proofs.Ytigjckjkhnokbaa.E
namespace Go.Proofs.Ytigjckjkhnokbaa.E
open Go
set_option linter.unusedVariables false
set_option maxRecDepth 100000
def gMany {α : Type} (k : Nat) (f : Sg → α × Sg) : Sg → List α × Sg := bindS (nkS k) fun n => repN f n.toNat []
def gPrg : Sg → Prg × Sg :=
  bindS (nkS 1) fun mode => bindS (nkS 1) fun scale => bindS (gMany 1 gSize) fun sizes => bindS (gMany 2 gWide) fun consts => bindS (gMany 2 gTiers) fun scales => bindS (gMany 2 gInstr) fun code => retS (s64 mode, s64 scale, sizes, consts, scales, code)
theorem go_many {α : Type} {f : Sg → α × Sg} {p : Ps α} (h : Fo f p) (k : Nat) : Fo (gMany k f) (pMany k p) := fo_bind (fo_nk k) fun n => fo_repN h n.toNat
theorem go_prg : Fo gPrg pPrg :=
  fo_bind (fo_nk 1) fun mode => fo_bind (fo_nk 1) fun scale => fo_bind (go_many go_size 1) fun sizes => fo_bind (go_many go_wide 2) fun consts => fo_bind (go_many go_tiers 2) fun scales => fo_bind (go_many go_instr 2) fun code => fo_ret (s64 mode, s64 scale, sizes, consts, scales, code)
theorem repN_len {α : Type} (f : Sg → α × Sg) : ∀ (n : Nat) (acc : List α) (st : Sg), (repN f n acc st).1.length ≤ acc.length + n
  | 0, acc, st => by simp [repN]
  | n + 1, acc, (b, true) => by simp [repN]
  | n + 1, acc, (b, false) => by
    have := repN_len f n (acc ++ [(f (b, false)).1]) (f (b, false)).2
    have e : repN f (n + 1) acc (b, false) = repN f n (acc ++ [(f (b, false)).1]) (f (b, false)).2 := rfl
    rw [e]
    simp at this
    omega
theorem repN_all {α : Type} {f : Sg → α × Sg} {p : Ps α} (hf : Fo f p) {A : α → Prop} (h : ∀ b s, Bs b → A (f (b, s)).1) : ∀ (n : Nat) (acc : List α) (b : List Int) (s : Bool), Bs b → (∀ x ∈ acc, A x) → ∀ x ∈ (repN f n acc (b, s)).1, A x
  | 0, acc, b, s, hb, ha => ha
  | n + 1, acc, b, true, hb, ha => ha
  | n + 1, acc, b, false, hb, ha => repN_all hf h n (acc ++ [(f (b, false)).1]) (f (b, false)).2.1 (f (b, false)).2.2 (hf.keep b false hb).1 fun x hx => by
    rcases List.mem_append.1 hx with k | k
    · exact ha x k
    · rw [List.mem_singleton.1 k]; exact h b false hb
theorem gtiers_small (b : List Int) (s : Bool) (hb : Bs b) : (gTiers (b, s)).1.length ≤ 140737488355328 := by
  have := nkS_in hb s (k := 1) (by omega)
  have h2 := repN_len gTier (nkS 1 (b, s)).1.toNat [] (nkS 1 (b, s)).2
  simp only [List.length_nil] at h2
  have e : (gTiers (b, s)).1 = (repN gTier (nkS 1 (b, s)).1.toNat [] (nkS 1 (b, s)).2).1 := rfl
  rw [e]
  omega
theorem nk_cons (x : Int) (r : List Int) : nkS 1 (x :: r, false) = (x, (r, false)) := by
  unfold nkS tkS
  simp [num]
end Go.Proofs.Ytigjckjkhnokbaa.E
namespace Go.Proofs.Ytigjckjkhnokbaa.E
open Go
set_option linter.unusedVariables false
set_option maxRecDepth 100000
theorem magic_short {b : List Int} (h : b.length < 4) : magic b = false := by
  unfold magic
  rw [decide_eq_false_iff_not]
  intro e
  have := congrArg List.length e
  simp at this
  omega
theorem dec_no {b : List Int} (h : magic b = false) : decans b = (zeroP, 160, ()) := by unfold decans; rw [h]; rfl
theorem nk_nil : nkS 1 (([] : List Int), false) = (0, ([], true)) := rfl
theorem rDecode {b : List Int} (hb : Bl b) : N17 (b, ()) = some (decans b) := by
  have S0 : Suf b b := ⟨0, Nat.zero_le _, rfl⟩
  have z0 : (0 : Int) = ((b.length - b.length : Nat) : Int) := by omega
  unfold N17 M17
  simp only []
  have q1 := rNum1 hb S0 false
  simp only [rst, Nat.sub_self] at q1
  have q1 : N25 ((b, 0, false, ()), 1, ()) = _ := q1
  rw [q1]
  simp only [Option.bind_some]
  have S1 := S0.nk false 1
  match b, hb with
  | [], hb =>
    rw [nk_nil, dec_no (magic_short (by decide))]
    rfl
  | x0 :: r0, hb =>
  rw [nk_cons] at S1 ⊢
  by_cases k0 : x0 = 79
  rotate_left
  · rw [bif_t (show (x0 != 79) = true from by simpa using k0), dec_no]
    · rfl
    · unfold magic
      rw [decide_eq_false_iff_not]
      intro e
      simp at e
      exact k0 e.1
  subst k0
  simp only [bne_self_eq_false, cond_false]
  have q2 := rNum1 hb S1 false
  simp only [rst] at q2
  rw [q2]
  simp only [Option.bind_some]
  have S2 := S1.nk false 1
  match r0, hb, S1, S2 with
  | [], hb, S1, S2 =>
    rw [nk_nil, dec_no (magic_short (by decide))]
    rfl
  | x1 :: r1, hb, S1, S2 =>
  rw [nk_cons] at S2 ⊢
  by_cases k1 : x1 = 67
  rotate_left
  · rw [bif_t (show (x1 != 67) = true from by simpa using k1), dec_no]
    · rfl
    · unfold magic
      rw [decide_eq_false_iff_not]
      intro e
      simp at e
      exact k1 e.1
  subst k1
  simp only [bne_self_eq_false, cond_false]
  have q3 := rNum1 hb S2 false
  simp only [rst] at q3
  rw [q3]
  simp only [Option.bind_some]
  have S3 := S2.nk false 1
  match r1, hb, S2, S3 with
  | [], hb, S2, S3 =>
    rw [nk_nil, dec_no (magic_short (by decide))]
    rfl
  | x2 :: r2, hb, S2, S3 =>
  rw [nk_cons] at S3 ⊢
  by_cases k2 : x2 = 84
  rotate_left
  · rw [bif_t (show (x2 != 84) = true from by simpa using k2), dec_no]
    · rfl
    · unfold magic
      rw [decide_eq_false_iff_not]
      intro e
      simp at e
      exact k2 e.1
  subst k2
  simp only [bne_self_eq_false, cond_false]
  have q4 := rNum1 hb S3 false
  simp only [rst] at q4
  rw [q4]
  simp only [Option.bind_some]
  have S4 := S3.nk false 1
  match r2, hb, S3, S4 with
  | [], hb, S3, S4 =>
    rw [nk_nil, dec_no (magic_short (by decide))]
    rfl
  | x3 :: c, hb, S3, S4 =>
  rw [nk_cons] at S4 ⊢
  by_cases k3 : x3 = 49
  rotate_left
  · rw [bif_t (show (x3 != 49) = true from by simpa using k3), dec_no]
    · rfl
    · unfold magic
      rw [decide_eq_false_iff_not]
      intro e
      simp at e
      exact k3 e
  subst k3
  simp only [bne_self_eq_false, cond_false]
  have hdec : decans (79 :: 67 :: 84 :: 49 :: c) = (match pPrg c with
    | some (p, []) => bif chk p != 0 then (zeroP, 160, ()) else (p, 0, ())
    | _ => (zeroP, 160, ())) := rfl
  rw [hdec]
  clear hdec q1 q2 q3 q4 S0 S1 S2 S3 z0
  generalize (79 :: 67 :: 84 :: 49 :: c) = B at *
  have hc : Bl c := S4.bl hb
  have F := go_prg
  have p1 := rNum1 hb S4 false
  simp only [rst] at p1
  rw [p1]
  have A1 := S4.nk false 1
  have n1 := nkS_in (S4.bl hb).1 false (k := 1) (by omega)
  generalize e1 : nkS 1 (c, false) = t1 at *
  obtain ⟨v1, c1, s1⟩ := t1
  simp only [Option.bind_some] at A1 n1 ⊢
  have p2 := rNum1 hb A1 s1
  simp only [rst] at p2
  rw [p2]
  have A2 := A1.nk s1 1
  have n2 := nkS_in (A1.bl hb).1 s1 (k := 1) (by omega)
  generalize e2 : nkS 1 (c1, s1) = t2 at *
  obtain ⟨v2, c2, s2⟩ := t2
  simp only [Option.bind_some] at A2 n2 ⊢
  have p3 := rNum1 hb A2 s2
  simp only [rst] at p3
  rw [p3]
  have A3 := A2.nk s2 1
  have n3 := nkS_in (A2.bl hb).1 s2 (k := 1) (by omega)
  generalize e3 : nkS 1 (c2, s2) = t3 at *
  obtain ⟨v3, c3, s3⟩ := t3
  simp only [Option.bind_some] at A3 n3 ⊢
  have L0 := itrs_of (t_sizes B (0, 0, [], [], [], [], ()) (s64 v1) (s64 v2) [] [] [] hb (n := v3.toNat) (by omega) v3.toNat 0 [] c3 s3 (by omega) (Nat.le_refl _) A3) (by omega)
  rw [nat_of n3.1] at L0
  simp only [rst] at L0
  have L0 : itrs R17_0 (B, (0, 0, [], [], [], [], ()), (B, ((B.length - c3.length : Nat) : Int), s3, ()), (IntKind.wrap .i64 v1, IntKind.wrap .i64 v2, [], [], [], [], ()), v3, 0, ()) = _ := L0
  rw [wsi (n := v3) (by omega), L0]
  have A4 := suf_rep (f := gSize) (fun l s h => h.size s) v3.toNat [] c3 s3 A3
  have l4 := repN_len gSize v3.toNat [] (c3, s3)
  generalize e4 : repN gSize v3.toNat [] (c3, s3) = t4 at *
  obtain ⟨sizes, c4, s4⟩ := t4
  simp only [Option.bind_some] at A4 l4 ⊢
  have p5 := rNum2 hb A4 s4
  simp only [rst] at p5
  rw [p5]
  have A5 := A4.nk s4 2
  have n5 := nkS_in (A4.bl hb).1 s4 (k := 2) (by omega)
  generalize e5 : nkS 2 (c4, s4) = t5 at *
  obtain ⟨v5, c5, s5⟩ := t5
  simp only [Option.bind_some] at A5 n5 ⊢
  have L2 := itrs_of (t_consts B (0, 0, [], [], [], [], ()) (s64 v1) (s64 v2) sizes [] [] hb (n := v5.toNat) (by omega) v5.toNat 0 [] c5 s5 (by omega) (Nat.le_refl _) A5) (by omega)
  rw [nat_of n5.1] at L2
  simp only [rst] at L2
  have L2 : itrs R17_2 (B, (0, 0, [], [], [], [], ()), (B, ((B.length - c5.length : Nat) : Int), s5, ()), (s64 v1, s64 v2, sizes, [], [], [], ()), v5, 0, ()) = _ := L2
  rw [wsi (n := v5) (by omega), L2]
  have A6 := suf_rep (f := gWide) (fun l s h => h.wide s) v5.toNat [] c5 s5 A5
  have l6 := repN_len gWide v5.toNat [] (c5, s5)
  generalize e6 : repN gWide v5.toNat [] (c5, s5) = t6 at *
  obtain ⟨consts, c6, s6⟩ := t6
  simp only [Option.bind_some] at A6 l6 ⊢
  have p7 := rNum2 hb A6 s6
  simp only [rst] at p7
  rw [p7]
  have A7 := A6.nk s6 2
  have n7 := nkS_in (A6.bl hb).1 s6 (k := 2) (by omega)
  generalize e7 : nkS 2 (c6, s6) = t7 at *
  obtain ⟨v7, c7, s7⟩ := t7
  simp only [Option.bind_some] at A7 n7 ⊢
  have L4 := itrs_of (t_scales B (0, 0, [], [], [], [], ()) (s64 v1) (s64 v2) sizes consts [] hb (n := v7.toNat) (by omega) v7.toNat 0 [] c7 s7 (by omega) (Nat.le_refl _) A7) (by omega)
  rw [nat_of n7.1] at L4
  simp only [rst] at L4
  have L4 : itrs R17_4 (B, (0, 0, [], [], [], [], ()), (B, ((B.length - c7.length : Nat) : Int), s7, ()), (s64 v1, s64 v2, sizes, consts, [], [], ()), v7, 0, ()) = _ := L4
  rw [wsi (n := v7) (by omega), L4]
  have A8 := suf_rep (f := gTiers) (fun l s h => h.tiers s) v7.toNat [] c7 s7 A7
  have l8 := repN_len gTiers v7.toNat [] (c7, s7)
  have a8 := repN_all (A := fun t => t.length ≤ 140737488355328) go_tiers gtiers_small v7.toNat [] c7 s7 (A7.bl hb).1 (fun x hx => by cases hx)
  generalize e8 : repN gTiers v7.toNat [] (c7, s7) = t8 at *
  obtain ⟨scales, c8, s8⟩ := t8
  simp only [Option.bind_some] at A8 l8 a8 ⊢
  have p9 := rNum2 hb A8 s8
  simp only [rst] at p9
  rw [p9]
  have A9 := A8.nk s8 2
  have n9 := nkS_in (A8.bl hb).1 s8 (k := 2) (by omega)
  generalize e9 : nkS 2 (c8, s8) = t9 at *
  obtain ⟨v9, c9, s9⟩ := t9
  simp only [Option.bind_some] at A9 n9 ⊢
  have L6 := itrs_of (t_code B (0, 0, [], [], [], [], ()) (s64 v1) (s64 v2) sizes consts scales hb (n := v9.toNat) (by omega) v9.toNat 0 [] c9 s9 (by omega) (Nat.le_refl _) A9) (by omega)
  rw [nat_of n9.1] at L6
  simp only [rst] at L6
  have L6 : itrs R17_6 (B, (0, 0, [], [], [], [], ()), (B, ((B.length - c9.length : Nat) : Int), s9, ()), (s64 v1, s64 v2, sizes, consts, scales, [], ()), v9, 0, ()) = _ := L6
  rw [wsi (n := v9) (by omega), L6]
  have A10 := suf_rep (f := gInstr) (fun l s h => h.instr s) v9.toNat [] c9 s9 A9
  have l10 := repN_len gInstr v9.toNat [] (c9, s9)
  generalize e10 : repN gInstr v9.toNat [] (c9, s9) = t10 at *
  obtain ⟨code, c10, s10⟩ := t10
  simp only [Option.bind_some] at A10 l10 ⊢
  have eF : gPrg (c, false) = ((s64 v1, s64 v2, sizes, consts, scales, code), (c10, s10)) := by
    simp only [gPrg, gMany, bindS, retS, e1, e2, e3, e4, e5, e6, e7, e8, e9, e10]
  have hs : Small (s64 v1, s64 v2, sizes, consts, scales, code) := ⟨by simp only [List.length_nil] at l4; simp only; omega, by simp only [List.length_nil] at l6; simp only; omega, by simp only [List.length_nil] at l8; simp only; omega, by simp only [List.length_nil] at l10; simp only; omega, a8⟩
  cases hp : pPrg c with
  | none =>
    have := F.bad c hc.1 hp
    rw [eF] at this
    have : s10 = true := this
    subst this
    rfl
  | some x =>
    obtain ⟨q, l⟩ := x
    have := F.ok c q l hc.1 hp
    rw [eF] at this
    injection this with k1 k2
    injection k2 with k2 k3
    subst k1 k2 k3
    simp only [cond_false]
    obtain ⟨m, m1, m2⟩ := A10
    have hl : c10.length = B.length - m := by rw [m2, List.length_drop]
    cases c10 with
    | nil =>
      rw [bif_f (show ((((B.length - ([] : List Int).length : Nat) : Int)) != (B.length : Int)) = false from by simp), rCheck hs]
      simp only [Option.bind_some]
      cases chk (s64 v1, s64 v2, sizes, consts, scales, code) != 0 <;> rfl
    | cons y r =>
      rw [bif_t (show ((((B.length - (y :: r).length : Nat) : Int)) != (B.length : Int)) = true from by simp only [bne_iff_ne, ne_eq]; simp only [List.length_cons] at hl ⊢; omega)]
      rfl
end Go.Proofs.Ytigjckjkhnokbaa.E
namespace Go.Proofs.Ytigjckjkhnokbaa.E
open Go
set_option linter.unusedVariables false
set_option maxRecDepth 100000
/-! ### what lies behind changes nothing -/
def Grows {α : Type} (p : Ps α) : Prop := ∀ l a r m, p l = some (a, r) → p (l ++ m) = some (a, r ++ m)
theorem grows_pnum (k : Nat) : Grows (pnum k) := by
  intro l a r m h
  unfold pnum at h ⊢
  cases hk : decide (l.length < k) with
  | true => rw [hk] at h; cases h
  | false =>
    rw [hk] at h
    have := of_decide_eq_false hk
    simp only [cond_false, Option.some.injEq, Prod.mk.injEq] at h
    obtain ⟨rfl, rfl⟩ := h
    rw [bif_f (decide_eq_false (by rw [List.length_append]; omega)), List.take_append_of_le_length (by omega), List.drop_append_of_le_length (by omega)]
theorem grows_ret {α : Type} (a : α) : Grows (Ps.ret a) := by
  intro l b r m h
  unfold Ps.ret at h ⊢
  injection h with h
  injection h with h1 h2
  rw [h1, h2]
theorem grows_bind {α β : Type} {p : Ps α} {f : α → Ps β} (hp : Grows p) (hf : ∀ a, Grows (f a)) : Grows (p.bind f) := by
  intro l b r m h
  unfold Ps.bind at h ⊢
  cases h1 : p l with
  | none => rw [h1] at h; cases h
  | some x =>
    obtain ⟨a, l1⟩ := x
    rw [h1] at h
    rw [hp l a l1 m h1]
    exact hf a l1 b r m h
theorem grows_rep {α : Type} {p : Ps α} (h : Grows p) : ∀ n, Grows (rep p n)
  | 0 => grows_ret []
  | n + 1 => grows_bind h fun a => grows_bind (grows_rep h n) fun r => grows_ret (a :: r)
theorem grows_many {α : Type} {p : Ps α} (h : Grows p) (k : Nat) : Grows (pMany k p) := grows_bind (grows_pnum k) fun n => grows_rep h n.toNat
theorem grows_size : Grows pSize := grows_bind (grows_pnum 8) fun x => grows_ret (s64 x)
theorem grows_wide : Grows pWide := grows_bind (grows_pnum 8) fun lo => grows_bind (grows_pnum 8) fun hi => grows_ret (s64 hi, lo)
theorem grows_tier : Grows pTier := grows_bind (grows_pnum 8) fun a => grows_bind (grows_pnum 8) fun b => grows_ret (s64 a, s64 b)
theorem grows_tiers : Grows pTiers := grows_many grows_tier 1
theorem grows_instr : Grows pInstr := grows_bind (grows_pnum 1) fun a => grows_bind (grows_pnum 2) fun b => grows_bind (grows_pnum 2) fun c => grows_ret (s64 a, s64 b, s64 c)
theorem grows_prg : Grows pPrg :=
  grows_bind (grows_pnum 1) fun mode => grows_bind (grows_pnum 1) fun scale => grows_bind (grows_many grows_size 1) fun sizes => grows_bind (grows_many grows_wide 2) fun consts => grows_bind (grows_many grows_tiers 2) fun scales => grows_bind (grows_many grows_instr 2) fun code => grows_ret (s64 mode, s64 scale, sizes, consts, scales, code)
/-! ### written, then read -/
def Reads {α : Type} (p : Ps α) (a : α) (b : List Int) : Prop := ∀ m, p (b ++ m) = some (a, m)
theorem num_le : ∀ (k : Nat) (x : Int), 0 ≤ x → x < 256 ^ k → num (le k x) = x
  | 0, x, h0, h1 => by
    simp at h1
    simp only [le, num]
    omega
  | k + 1, x, h0, h1 => by
    rw [Int.pow_succ] at h1
    have hp : (0 : Int) < 256 ^ k := Int.pow_pos (by decide)
    simp only [le, num]
    rw [num_le k (x / 256) (by omega) (by generalize (256 : Int) ^ k = p at *; omega)]
    omega
theorem reads_pnum {k : Nat} {x : Int} (h0 : 0 ≤ x) (h1 : x < 256 ^ k) : Reads (pnum k) x (le k x) := by
  intro m
  have hl := le_len k x
  unfold pnum
  rw [bif_f (decide_eq_false (by rw [List.length_append]; omega)), List.take_append_of_le_length (by omega), List.drop_append_of_le_length (by omega), List.take_of_length_le (by omega), List.drop_eq_nil_of_le (by omega), num_le k x h0 h1]
  rfl
theorem reads_ret {α : Type} (a : α) : Reads (Ps.ret a) a [] := fun m => rfl
theorem reads_bind {α β : Type} {p : Ps α} {f : α → Ps β} {a : α} {b : β} {x y : List Int} (hp : Reads p a x) (hf : Reads (f a) b y) : Reads (p.bind f) b (x ++ y) := by
  intro m
  unfold Ps.bind
  rw [List.append_assoc, hp (y ++ m)]
  exact hf m
theorem reads_rep {α : Type} {p : Ps α} {e : α → List Int} : ∀ (l : List α), (∀ x ∈ l, Reads p x (e x)) → Reads (rep p l.length) l (l.flatMap e)
  | [], _ => reads_ret []
  | x :: l, h => by
    rw [List.flatMap_cons]
    have h2 := reads_bind (f := fun r => Ps.ret (x :: r)) (reads_rep l fun y hy => h y (by simp [hy])) (reads_ret (x :: l))
    rw [List.append_nil] at h2
    exact reads_bind (h x (by simp)) h2
theorem reads_many {α : Type} {p : Ps α} {e : α → List Int} {k : Nat} {l : List α} (hl : (l.length : Int) < 256 ^ k) (h : ∀ x ∈ l, Reads p x (e x)) : Reads (pMany k p) l (le k (l.length : Int) ++ l.flatMap e) := by
  refine reads_bind (reads_pnum (by omega) hl) ?_
  rw [Int.toNat_natCast]
  exact reads_rep l h
def In64 (x : Int) : Prop := -9223372036854775808 ≤ x ∧ x ≤ 9223372036854775807
theorem s64_u64 {x : Int} (h : In64 x) : s64 (u64 x) = x := by unfold In64 at h; unfold s64 u64; rw [ws]; omega
theorem u64_s64 {x : Int} (h : 0 ≤ x ∧ x ≤ 18446744073709551615) : u64 (s64 x) = x := by unfold s64 u64; rw [ws]; omega
theorem u64_lt (x : Int) : u64 x < 256 ^ 8 := by have := u64_in x; omega
theorem reads_size {x : Int} (h : In64 x) : Reads pSize x (encSize x) := by
  have : Reads pSize x (encSize x ++ []) := by
    refine reads_bind (reads_pnum (u64_in x).1 (u64_lt x)) ?_
    rw [s64_u64 h]
    exact reads_ret x
  rwa [List.append_nil] at this
theorem reads_wide {w : Int × Int} (h : In64 w.1) (h2 : 0 ≤ w.2 ∧ w.2 ≤ 18446744073709551615) : Reads pWide w (encWide w) := by
  have : Reads pWide w (le 8 w.2 ++ (le 8 (u64 w.1) ++ [])) := by
    refine reads_bind (reads_pnum h2.1 (by omega)) ?_
    refine reads_bind (reads_pnum (u64_in w.1).1 (u64_lt w.1)) ?_
    rw [s64_u64 h]
    exact reads_ret w
  rwa [List.append_nil] at this
theorem reads_tier {t : Int × Int} (h : In64 t.1) (h2 : In64 t.2) : Reads pTier t (encTier t) := by
  have : Reads pTier t (le 8 (u64 t.1) ++ (le 8 (u64 t.2) ++ [])) := by
    refine reads_bind (reads_pnum (u64_in t.1).1 (u64_lt t.1)) ?_
    refine reads_bind (reads_pnum (u64_in t.2).1 (u64_lt t.2)) ?_
    rw [s64_u64 h, s64_u64 h2]
    exact reads_ret t
  rwa [List.append_nil] at this
theorem reads_tiers {l : List (Int × Int)} (hl : l.length ≤ 16) (h : ∀ t ∈ l, In64 t.1 ∧ In64 t.2) : Reads pTiers l (encTiers l) := by
  have := reads_many (p := pTier) (e := encTier) (k := 1) (l := l) (by omega) (fun t ht => reads_tier (h t ht).1 (h t ht).2)
  rw [show le 1 (l.length : Int) ++ l.flatMap encTier = encTiers l from rfl] at this
  exact this
theorem reads_instr {c : Int × Int × Int} (h : badInstr c = false) : Reads pInstr c (encInstr c) := by
  have hb : (0 ≤ c.1 ∧ c.1 ≤ 255) ∧ (0 ≤ c.2.1 ∧ c.2.1 ≤ 65535) ∧ (0 ≤ c.2.2 ∧ c.2.2 ≤ 65535) := by
    unfold badInstr at h
    simp only [Bool.or_eq_false_iff, decide_eq_false_iff_not] at h
    omega
  obtain ⟨⟨a1, a2⟩, ⟨b1, b2⟩, ⟨c1, c2⟩⟩ := hb
  have e1 : u64 c.1 = c.1 := by unfold u64; omega
  have e2 : u64 c.2.1 = c.2.1 := by unfold u64; omega
  have e3 : u64 c.2.2 = c.2.2 := by unfold u64; omega
  have f1 : s64 c.1 = c.1 := wsi (by omega)
  have f2 : s64 c.2.1 = c.2.1 := wsi (by omega)
  have f3 : s64 c.2.2 = c.2.2 := wsi (by omega)
  have : Reads pInstr c (le 1 c.1 ++ (le 2 c.2.1 ++ (le 2 c.2.2 ++ []))) := by
    refine reads_bind (reads_pnum a1 (by omega)) ?_
    refine reads_bind (reads_pnum b1 (by omega)) ?_
    refine reads_bind (reads_pnum c1 (by omega)) ?_
    rw [f1, f2, f3]
    exact reads_ret c
  rw [List.append_nil, ← List.append_assoc] at this
  unfold encInstr
  rw [e1, e2, e3]
  exact this
/-- What the machine's words tell of a program. -/
structure Wf (p : Prg) : Prop where
  a : ∀ s ∈ p.2.2.1, In64 s
  b : ∀ w ∈ p.2.2.2.1, In64 w.1 ∧ 0 ≤ w.2 ∧ w.2 ≤ 18446744073709551615
  c : ∀ l ∈ p.2.2.2.2.1, ∀ t ∈ l, In64 t.1 ∧ In64 t.2
theorem Wf.los {p : Prg} (h : Wf p) : Los p := fun w hw => (h.b w hw).2
/-- A program's bytes behind the four first ones. -/
def bodyB (p : Prg) : List Int :=
  [p.1 % 256] ++ ([p.2.1 % 256] ++ ((le 1 (p.2.2.1.length : Int) ++ p.2.2.1.flatMap encSize) ++ ((le 2 (p.2.2.2.1.length : Int) ++ p.2.2.2.1.flatMap encWide) ++ ((le 2 (p.2.2.2.2.1.length : Int) ++ p.2.2.2.2.1.flatMap encTiers) ++ ((le 2 (p.2.2.2.2.2.length : Int) ++ p.2.2.2.2.2.flatMap encInstr) ++ [])))))
theorem encB_body (p : Prg) : encB p = [79, 67, 84, 49] ++ bodyB p := by
  unfold encB headB bodyB
  simp [le]
theorem chk_more {p : Prg} (h : chk p = 0) : (0 ≤ p.1 ∧ p.1 ≤ 4) ∧ (0 ≤ p.2.1 ∧ p.2.1 ≤ 6) ∧ (∀ c ∈ p.2.2.2.2.2, badInstr c = false) := by
  unfold chk at h
  obtain ⟨k1, h⟩ := bif_zero (by decide) h
  obtain ⟨k2, h⟩ := bif_zero (by decide) h
  obtain ⟨k3, h⟩ := bif_zero (by decide) h
  obtain ⟨k4, h⟩ := bif_zero (by decide) h
  obtain ⟨_, h⟩ := bif_zero (by decide) h
  obtain ⟨_, h⟩ := bif_zero (by decide) h
  obtain ⟨_, h⟩ := bif_zero (by decide) h
  obtain ⟨_, h⟩ := bif_zero (by decide) h
  obtain ⟨_, h⟩ := bif_zero (by decide) h
  obtain ⟨_, h⟩ := bif_zero (by decide) h
  obtain ⟨_, h⟩ := bif_zero (by decide) h
  obtain ⟨k5, h⟩ := bif_zero (by decide) h
  have k1 := of_decide_eq_false k1
  have k2 := of_decide_eq_false k2
  have k3 := of_decide_eq_false k3
  have k4 := of_decide_eq_false k4
  refine ⟨by omega, by omega, fun c hc => ?_⟩
  obtain ⟨j, hj, rfl⟩ := List.getElem_of_mem hc
  rw [List.any_eq_false] at k5
  have := k5 j (by rw [List.mem_range'_1]; omega)
  rw [getD_at hj] at this
  simpa using this
theorem reads_prg {p : Prg} (h : chk p = 0) (hw : Wf p) : Reads pPrg p (bodyB p) := by
  have hf := chk_fit h
  obtain ⟨hm, hs, hc⟩ := chk_more h
  have b1 : [p.1 % 256] = le 1 p.1 := by simp [le]
  have b2 : [p.2.1 % 256] = le 1 p.2.1 := by simp [le]
  have e1 : s64 p.1 = p.1 := wsi (by omega)
  have e2 : s64 p.2.1 = p.2.1 := wsi (by omega)
  have fa := hf.a
  have fb := hf.b
  have fc := hf.c
  have fd := hf.d
  unfold bodyB
  rw [b1, b2]
  refine reads_bind (reads_pnum (by omega) (by omega)) ?_
  refine reads_bind (reads_pnum (by omega) (by omega)) ?_
  refine reads_bind (reads_many (by omega) fun s hs => reads_size (hw.a s hs)) ?_
  refine reads_bind (reads_many (by omega) fun w hv => reads_wide (hw.b w hv).1 (hw.b w hv).2) ?_
  refine reads_bind (reads_many (by omega) fun l hl => reads_tiers (hf.e l hl) (hw.c l hl)) ?_
  refine reads_bind (reads_many (by omega) fun c hc' => reads_instr (hc c hc')) ?_
  rw [e1, e2]
  exact reads_ret p
/-! ### read, then written -/
def Writes {α : Type} (p : Ps α) (e : α → List Int) : Prop := ∀ l a r, Bs l → p l = some (a, r) → l = e a ++ r
theorem le_num : ∀ (l : List Int), Bs l → le l.length (num l) = l
  | [], _ => rfl
  | x :: l, h => by
    have h1 := h x (by simp)
    unfold Byte at h1
    have ih := le_num l fun y hy => h y (by simp [hy])
    simp only [num, List.length_cons, le]
    rw [show (x + 256 * num l) % 256 = x from by omega, show (x + 256 * num l) / 256 = num l from by omega, ih]
theorem writes_pnum (k : Nat) : ∀ l a r, Bs l → pnum k l = some (a, r) → l = le k a ++ r ∧ Bs r ∧ 0 ≤ a ∧ a < 256 ^ k := by
  intro l a r hb h
  unfold pnum at h
  cases hk : decide (l.length < k) with
  | true => rw [hk] at h; cases h
  | false =>
    rw [hk] at h
    have := of_decide_eq_false hk
    simp only [cond_false, Option.some.injEq, Prod.mk.injEq] at h
    obtain ⟨rfl, rfl⟩ := h
    have ht : Bs (l.take k) := fun x hx => hb x (List.mem_of_mem_take hx)
    have e := le_num (l.take k) ht
    have hn := num_in (l.take k) ht
    have hl : (l.take k).length = k := by rw [List.length_take]; omega
    rw [hl] at e hn
    rw [e, List.take_append_drop]
    exact ⟨rfl, hb.drop k, hn⟩
theorem Bs.tail {l e r : List Int} (h : Bs l) (he : l = e ++ r) : Bs r := fun x hx => h x (by rw [he]; exact List.mem_append_right _ hx)
theorem bind_some {α β : Type} {p : Ps α} {f : α → Ps β} {l : List Int} {b : β} {r : List Int} (h : p.bind f l = some (b, r)) : ∃ a l1, p l = some (a, l1) ∧ f a l1 = some (b, r) := by
  unfold Ps.bind at h
  cases h1 : p l with
  | none => rw [h1] at h; cases h
  | some x =>
    obtain ⟨a, l1⟩ := x
    rw [h1] at h
    exact ⟨a, l1, rfl, h⟩
theorem ret_some {α : Type} {a b : α} {l r : List Int} (h : Ps.ret a l = some (b, r)) : a = b ∧ l = r := by
  unfold Ps.ret at h
  injection h with h
  injection h with h1 h2
  exact ⟨h1, h2⟩
theorem writes_rep {α : Type} {p : Ps α} {e : α → List Int} (h : Writes p e) : ∀ (n : Nat) (l : List Int) (a : List α) (r : List Int), Bs l → rep p n l = some (a, r) → l = a.flatMap e ++ r ∧ a.length = n
  | 0, l, a, r, hb, hr => by
    obtain ⟨rfl, rfl⟩ := ret_some hr
    exact ⟨rfl, rfl⟩
  | n + 1, l, a, r, hb, hr => by
    obtain ⟨x, l1, h1, hr⟩ := bind_some hr
    obtain ⟨y, l2, h2, hr⟩ := bind_some hr
    obtain ⟨rfl, rfl⟩ := ret_some hr
    have e1 := h l x l1 hb h1
    obtain ⟨e2, e3⟩ := writes_rep h n l1 y l2 (hb.tail e1) h2
    rw [List.flatMap_cons, List.append_assoc, ← e2, List.length_cons, e3]
    exact ⟨e1, rfl⟩
theorem writes_many {α : Type} {p : Ps α} {e : α → List Int} (h : Writes p e) (k : Nat) : Writes (pMany k p) fun l => le k (l.length : Int) ++ l.flatMap e := by
  intro l a r hb hr
  obtain ⟨n, l1, h1, hr⟩ := bind_some hr
  obtain ⟨e1, b1, n0, n1⟩ := writes_pnum k l n l1 hb h1
  obtain ⟨e2, e3⟩ := writes_rep h n.toNat l1 a r b1 hr
  simp only
  rw [List.append_assoc, ← e2, e3, show ((n.toNat : Nat) : Int) = n from by omega]
  exact e1
theorem writes_size : Writes pSize encSize := by
  intro l a r hb hr
  obtain ⟨x, l1, h1, hr⟩ := bind_some hr
  obtain ⟨rfl, rfl⟩ := ret_some hr
  obtain ⟨e1, b1, n0, n1⟩ := writes_pnum 8 l x l1 hb h1
  unfold encSize
  rw [u64_s64 (by omega)]
  exact e1
theorem writes_wide : Writes pWide encWide := by
  intro l a r hb hr
  obtain ⟨x, l1, h1, hr⟩ := bind_some hr
  obtain ⟨y, l2, h2, hr⟩ := bind_some hr
  obtain ⟨rfl, rfl⟩ := ret_some hr
  obtain ⟨e1, b1, n0, n1⟩ := writes_pnum 8 l x l1 hb h1
  obtain ⟨e2, b2, m0, m1⟩ := writes_pnum 8 l1 y l2 b1 h2
  unfold encWide
  simp only
  rw [u64_s64 (by omega), List.append_assoc, ← e2]
  exact e1
theorem writes_tier : Writes pTier encTier := by
  intro l a r hb hr
  obtain ⟨x, l1, h1, hr⟩ := bind_some hr
  obtain ⟨y, l2, h2, hr⟩ := bind_some hr
  obtain ⟨rfl, rfl⟩ := ret_some hr
  obtain ⟨e1, b1, n0, n1⟩ := writes_pnum 8 l x l1 hb h1
  obtain ⟨e2, b2, m0, m1⟩ := writes_pnum 8 l1 y l2 b1 h2
  unfold encTier
  simp only
  rw [u64_s64 (by omega), u64_s64 (by omega), List.append_assoc, ← e2]
  exact e1
theorem writes_tiers : Writes pTiers encTiers := writes_many writes_tier 1
theorem writes_instr : Writes pInstr encInstr := by
  intro l a r hb hr
  obtain ⟨x, l1, h1, hr⟩ := bind_some hr
  obtain ⟨y, l2, h2, hr⟩ := bind_some hr
  obtain ⟨z, l3, h3, hr⟩ := bind_some hr
  obtain ⟨rfl, rfl⟩ := ret_some hr
  obtain ⟨e1, b1, n0, n1⟩ := writes_pnum 1 l x l1 hb h1
  obtain ⟨e2, b2, m0, m1⟩ := writes_pnum 2 l1 y l2 b1 h2
  obtain ⟨e3, b3, k0, k1⟩ := writes_pnum 2 l2 z l3 b2 h3
  unfold encInstr
  simp only
  rw [u64_s64 (by omega), u64_s64 (by omega), u64_s64 (by omega), List.append_assoc, List.append_assoc, ← e3, ← e2]
  exact e1
theorem writes_prg : Writes pPrg bodyB := by
  intro l a r hb hr
  obtain ⟨mode, l1, h1, hr⟩ := bind_some hr
  obtain ⟨scale, l2, h2, hr⟩ := bind_some hr
  obtain ⟨sizes, l3, h3, hr⟩ := bind_some hr
  obtain ⟨consts, l4, h4, hr⟩ := bind_some hr
  obtain ⟨scales, l5, h5, hr⟩ := bind_some hr
  obtain ⟨code, l6, h6, hr⟩ := bind_some hr
  obtain ⟨rfl, rfl⟩ := ret_some hr
  obtain ⟨e1, b1, n0, n1⟩ := writes_pnum 1 l mode l1 hb h1
  obtain ⟨e2, b2, m0, m1⟩ := writes_pnum 1 l1 scale l2 b1 h2
  have e3 := writes_many writes_size 1 l2 sizes l3 b2 h3
  have b3 := b2.tail e3
  have e4 := writes_many writes_wide 2 l3 consts l4 b3 h4
  have b4 := b3.tail e4
  have e5 := writes_many writes_tiers 2 l4 scales l5 b4 h5
  have b5 := b4.tail e5
  have e6 := writes_many writes_instr 2 l5 code l6 b5 h6
  unfold bodyB
  simp only at e3 e4 e5 e6 ⊢
  have f1 : [s64 mode % 256] = le 1 mode := by unfold s64; rw [wsi (by omega)]; simp [le]
  have f2 : [s64 scale % 256] = le 1 scale := by unfold s64; rw [wsi (by omega)]; simp [le]
  rw [f1, f2]
  simp only [List.append_assoc, List.nil_append] at e3 e4 e5 e6 ⊢
  rw [← e6, ← e5, ← e4, ← e3, ← e2]
  exact e1
theorem gives_rep {α : Type} {p : Ps α} {e : α → List Int} {A : α → Prop} (h : Writes p e) (hA : ∀ l a r, Bs l → p l = some (a, r) → A a) : ∀ (n : Nat) (l : List Int) (a : List α) (r : List Int), Bs l → rep p n l = some (a, r) → ∀ x ∈ a, A x
  | 0, l, a, r, hb, hr => by
    obtain ⟨rfl, rfl⟩ := ret_some hr
    intro x hx
    cases hx
  | n + 1, l, a, r, hb, hr => by
    obtain ⟨x, l1, h1, hr⟩ := bind_some hr
    obtain ⟨y, l2, h2, hr⟩ := bind_some hr
    obtain ⟨rfl, rfl⟩ := ret_some hr
    have ih := gives_rep h hA n l1 y l2 (hb.tail (h l x l1 hb h1)) h2
    intro z hz
    rcases List.mem_cons.1 hz with rfl | hz
    · exact hA l z l1 hb h1
    · exact ih z hz
theorem gives_wide : ∀ l a r, Bs l → pWide l = some (a, r) → 0 ≤ a.2 ∧ a.2 ≤ 18446744073709551615 := by
  intro l a r hb hr
  obtain ⟨x, l1, h1, hr⟩ := bind_some hr
  obtain ⟨y, l2, h2, hr⟩ := bind_some hr
  obtain ⟨rfl, rfl⟩ := ret_some hr
  obtain ⟨e1, b1, n0, n1⟩ := writes_pnum 8 l x l1 hb h1
  simp only
  omega
theorem gives_prg {l : List Int} {p : Prg} {r : List Int} (hb : Bs l) (hr : pPrg l = some (p, r)) : Los p := by
  obtain ⟨mode, l1, h1, hr⟩ := bind_some hr
  obtain ⟨scale, l2, h2, hr⟩ := bind_some hr
  obtain ⟨sizes, l3, h3, hr⟩ := bind_some hr
  obtain ⟨consts, l4, h4, hr⟩ := bind_some hr
  obtain ⟨scales, l5, h5, hr⟩ := bind_some hr
  obtain ⟨code, l6, h6, hr⟩ := bind_some hr
  obtain ⟨rfl, rfl⟩ := ret_some hr
  obtain ⟨e1, b1, n0, n1⟩ := writes_pnum 1 l mode l1 hb h1
  obtain ⟨e2, b2, m0, m1⟩ := writes_pnum 1 l1 scale l2 b1 h2
  have b3 := b2.tail (writes_many writes_size 1 l2 sizes l3 b2 h3)
  obtain ⟨n, k1, g1, h4⟩ := bind_some h4
  obtain ⟨_, b4, _, _⟩ := writes_pnum 2 l3 n k1 b3 g1
  exact gives_rep writes_wide gives_wide n.toNat k1 consts l4 b4 h4
/-! ### the decoder -/
theorem magic_split {b : List Int} (h : magic b = true) : b = [79, 67, 84, 49] ++ b.drop 4 := by
  unfold magic at h
  have := of_decide_eq_true h
  rw [← this, List.take_append_drop]
theorem magic_app (l : List Int) : magic ([79, 67, 84, 49] ++ l) = true := by
  unfold magic
  exact decide_eq_true rfl
/-- What is read is written as just these bytes. -/
theorem decans_cases {b : List Int} (hb : Bs b) : decans b = (zeroP, 160, ()) ∨ ∃ p, decans b = (p, 0, ()) ∧ chk p = 0 ∧ b = encB p ∧ Los p := by
  unfold decans
  cases hm : magic b with
  | false => exact .inl rfl
  | true =>
    simp only [cond_true]
    have hs := magic_split hm
    split
    · rename_i p hp
      by_cases hc : chk p = 0
      · refine .inr ⟨p, ?_, hc, ?_, gives_prg (hb.drop 4) hp⟩
        · rw [hc]
          rfl
        · have := writes_prg (b.drop 4) p [] (hb.drop 4) hp
          rw [List.append_nil] at this
          rw [encB_body, ← this]
          exact hs
      · rw [bif_t (show (chk p != 0) = true from by simpa using hc)]
        exact .inl rfl
    · exact .inl rfl
/-- A program's bytes with something behind them. -/
theorem decans_enc {p : Prg} (h : chk p = 0) (hw : Wf p) (m : List Int) : decans (encB p ++ m) = bif decide (m.length = 0) then (p, 0, ()) else (zeroP, 160, ()) := by
  unfold decans
  rw [encB_body, List.append_assoc, magic_app, cond_true]
  rw [show List.drop 4 ([79, 67, 84, 49] ++ (bodyB p ++ m)) = bodyB p ++ m from rfl, reads_prg h hw m]
  cases m with
  | nil =>
    simp only []
    rw [h]
    rfl
  | cons x r => rfl
theorem enc_inj {p q : Prg} (hp : chk p = 0) (hq : chk q = 0) (wp : Wf p) (wq : Wf q) (h : encB p = encB q) : p = q := by
  have e1 := decans_enc hp wp []
  have e2 := decans_enc hq wq []
  rw [h, e2] at e1
  simp only [List.length_nil, decide_true, cond_true, Prod.mk.injEq] at e1
  exact e1.1.symm
/-- A program's bytes cut anywhere are none's. -/
theorem decans_cut {p : Prg} (h : chk p = 0) (hw : Wf p) {n : Nat} (hn : n < (encB p).length) : decans ((encB p).take n) = (zeroP, 160, ()) := by
  unfold decans
  cases hm : magic ((encB p).take n) with
  | false => rfl
  | true =>
    simp only [cond_true]
    by_cases h4 : n < 4
    · rw [magic_short (by rw [List.length_take]; omega)] at hm
      cases hm
    have hd : List.drop 4 ((encB p).take n) = (bodyB p).take (n - 4) := by
      rw [encB_body, List.drop_take]
      rfl
    have hl : (bodyB p).length + 4 = (encB p).length := by rw [encB_body]; simp
    rw [hd]
    split
    · rename_i q hq
      exfalso
      have g := grows_prg _ _ _ ((bodyB p).drop (n - 4)) hq
      rw [List.take_append_drop] at g
      have r := reads_prg h hw []
      rw [List.append_nil, g] at r
      have e : [] ++ (bodyB p).drop (n - 4) = [] := by
        injection r with r
        injection r
      rw [List.nil_append] at e
      have := congrArg List.length e
      rw [List.length_drop, List.length_nil] at this
      omega
    · rfl
theorem Fit.small {p : Prg} (h : Fit p) : Small p := ⟨by have := h.a; omega, by have := h.b; omega, by have := h.c; omega, by have := h.d; omega, fun l hl => by have := h.e l hl; omega⟩
theorem small_zero : Small zeroP := ⟨Nat.zero_le _, Nat.zero_le _, Nat.zero_le _, Nat.zero_le _, fun l hl => by cases hl⟩
theorem le_byte : ∀ (k : Nat) (x : Int), Bs (le k x)
  | 0, x => fun y hy => by cases hy
  | k + 1, x => fun y hy => by
    rcases List.mem_cons.1 hy with rfl | hy
    · unfold Byte; omega
    · exact le_byte k (x / 256) y hy
theorem bs_app {a b : List Int} (ha : Bs a) (hb : Bs b) : Bs (a ++ b) := fun x hx => by
  rcases List.mem_append.1 hx with h | h
  · exact ha x h
  · exact hb x h
theorem bs_flat {α : Type} {f : α → List Int} (h : ∀ x, Bs (f x)) (l : List α) : Bs (l.flatMap f) := fun x hx => by
  obtain ⟨y, _, hy⟩ := List.mem_flatMap.1 hx
  exact h y x hy
theorem bs_one (x : Int) : Bs [x % 256] := fun y hy => by
  rw [List.mem_singleton.1 hy]
  unfold Byte
  omega
theorem encB_bytes (p : Prg) : Bs (encB p) := by
  have hm : Bs [79, 67, 84, 49] := fun x hx => by
    simp only [List.mem_cons, List.not_mem_nil, or_false] at hx
    unfold Byte
    omega
  have ht : ∀ t, Bs (encTier t) := fun t => bs_app (le_byte _ _) (le_byte _ _)
  rw [encB_body]
  refine bs_app hm ?_
  refine bs_app (bs_one _) (bs_app (bs_one _) (bs_app (bs_app (le_byte _ _) (bs_flat (fun _ => le_byte _ _) _)) (bs_app (bs_app (le_byte _ _) (bs_flat (fun _ => bs_app (le_byte _ _) (le_byte _ _)) _)) (bs_app (bs_app (le_byte _ _) (bs_flat (fun l => bs_app (bs_one _) (bs_flat ht l)) _)) (bs_app (bs_app (le_byte _ _) (bs_flat (fun _ => bs_app (bs_app (le_byte _ _) (le_byte _ _)) (le_byte _ _)) _)) (fun x hx => by cases hx))))))
theorem encB_len {p : Prg} (h : Fit p) : (encB p).length ≤ 400000 ∧ 4 ≤ (encB p).length := by
  obtain ⟨fa, fb, fc, fd, fe⟩ := h
  have s1 := flat_len (f := encSize) (m := 8) p.2.2.1 fun x _ => by simp [encSize, le_len]
  have s2 := flat_len (f := encWide) (m := 16) p.2.2.2.1 fun x _ => by simp [encWide, le_len]
  have s3 := flat_len (f := encTiers) (m := 257) p.2.2.2.2.1 fun x hx => encTiers_len (fe x hx)
  have s4 := flat_len (f := encInstr) (m := 5) p.2.2.2.2.2 fun x _ => by simp [encInstr, le_len]
  unfold encB headB
  simp only [List.length_append, List.length_cons, List.length_nil, le_len]
  omega
/-- Bytes as a string are the bytes. -/
theorem str_eq {a b : List Int} (ha : Bs a) (hb : Bs b) : (ByteArray.toList { data := List.toArray (List.map (fun n => UInt8.ofNat (Int.toNat n)) a) } == ByteArray.toList { data := List.toArray (List.map (fun n => UInt8.ofNat (Int.toNat n)) b) }) = decide (a = b) := by
  rw [ByteArray.toList_eq, ByteArray.toList_eq, Bool.eq_iff_iff, beq_iff_eq, decide_eq_true_eq]
  constructor
  · intro h
    have h : List.map (fun n => UInt8.ofNat (Int.toNat n)) a = List.map (fun n => UInt8.ofNat (Int.toNat n)) b := by simpa using h
    have hl : a.length = b.length := by simpa using congrArg List.length h
    refine List.ext_getElem hl fun i h1 h2 => ?_
    have e : UInt8.ofNat (Int.toNat a[i]) = UInt8.ofNat (Int.toNat b[i]) := by
      have := List.getElem_of_eq h (i := i) (by simpa using h1)
      simpa using this
    have e := congrArg UInt8.toNat e
    simp only [UInt8.toNat_ofNat'] at e
    have x := ha a[i] (List.getElem_mem h1)
    have y := hb b[i] (List.getElem_mem h2)
    unfold Byte at x y
    omega
  · intro h
    rw [h]
end Go.Proofs.Ytigjckjkhnokbaa.E
namespace Go.Proofs.Ytigjckjkhnokbaa.E
open Go
set_option linter.unusedVariables false
set_option maxRecDepth 100000
theorem by_u8 : Program.bytesOf Try.prog 5 = 1 := by kernel_rfl
theorem by_i64 : Program.bytesOf Try.prog 2 = 8 := by kernel_rfl
theorem by_wide : Program.bytesOf Try.prog 66 = 16 := by kernel_rfl
theorem by_tiers : Program.bytesOf Try.prog 67 = 24 := by kernel_rfl
theorem by_tier : Program.bytesOf Try.prog 69 = 16 := by kernel_rfl
theorem by_instr : Program.bytesOf Try.prog 42 = 24 := by kernel_rfl
theorem bytes_bl {b : List Int} (h : List.length b * Program.bytesOf Try.prog 5 ≤ 140737488351232 ∧ ∀ x ∈ b, (0 ≤ x ∧ x ≤ 255)) : Bl b := by
  rw [by_u8] at h
  exact ⟨fun x hx => h.2 x hx, by omega⟩
theorem prg_wf {p : Prg} (h1 : List.length p.2.2.1 * Program.bytesOf Try.prog 2 ≤ 140737488351232 ∧ ∀ x ∈ p.2.2.1, (-9223372036854775808 ≤ x ∧ x ≤ 9223372036854775807))
    (h2 : List.length p.2.2.2.1 * Program.bytesOf Try.prog 66 ≤ 140737488351232 ∧ ∀ x ∈ p.2.2.2.1, (-9223372036854775808 ≤ x.1 ∧ x.1 ≤ 9223372036854775807) ∧ (0 ≤ x.2 ∧ x.2 ≤ 18446744073709551615))
    (h3 : List.length p.2.2.2.2.1 * Program.bytesOf Try.prog 67 ≤ 140737488351232 ∧ ∀ x ∈ p.2.2.2.2.1, (List.length x * Program.bytesOf Try.prog 69 ≤ 140737488351232 ∧ ∀ x' ∈ x, (-9223372036854775808 ≤ x'.1 ∧ x'.1 ≤ 9223372036854775807) ∧ (-9223372036854775808 ≤ x'.2 ∧ x'.2 ≤ 9223372036854775807)))
    (h4 : List.length p.2.2.2.2.2 * Program.bytesOf Try.prog 42 ≤ 140737488351232) : Small p ∧ Wf p := by
  rw [by_i64] at h1
  rw [by_wide] at h2
  rw [by_tiers, by_tier] at h3
  rw [by_instr] at h4
  refine ⟨⟨by omega, by omega, by omega, by omega, fun l hl => ?_⟩, ⟨h1.2, h2.2, fun l hl => (h3.2 l hl).2⟩⟩
  have := (h3.2 l hl).1
  omega
theorem bl_enc {p : Prg} (h : chk p = 0) : Bl (encB p) := ⟨encB_bytes p, by have := encB_len (chk_fit h); omega⟩
theorem dec_enc {p : Prg} (h : chk p = 0) (hw : Wf p) : decans (encB p) = (p, 0, ()) := by
  have := decans_enc h hw []
  rw [List.append_nil] at this
  rw [this]
  rfl
end Go.Proofs.Ytigjckjkhnokbaa.E
namespace Go.Proofs.Ytigjckjkhnokbaa.E
open Go
set_option linter.unusedVariables false
set_option linter.unusedSimpArgs false
set_option maxRecDepth 100000
abbrev Pl : Type := List (Int × Int)
/-- What an instruction takes; -1: there is no such one. -/
def tkn (op : Int) : Int := if op = 4 ∨ (10 ≤ op ∧ op ≤ 14) ∨ (16 ≤ op ∧ op ≤ 21) then 1 else if 5 ≤ op ∧ op ≤ 9 then 2 else if (1 ≤ op ∧ op ≤ 3) ∨ op = 15 then 0 else -1
def lyn (op : Int) : Int := if op ≥ 15 then 0 else 1
def arn (p : Prg) (op : Int) : Int := if op = 2 ∨ op = 3 then (p.2.2.1.length : Int) else if op = 12 ∨ op = 13 then (p.2.2.2.2.1.length : Int) else if op = 14 then 10001 else if op = 1 ∨ op = 10 ∨ op = 11 ∨ op > 15 then (p.2.2.2.1.length : Int) else 1
theorem op_cases (op : Int) : op ≤ 0 ∨ op = 1 ∨ op = 2 ∨ op = 3 ∨ op = 4 ∨ op = 5 ∨ op = 6 ∨ op = 7 ∨ op = 8 ∨ op = 9 ∨ op = 10 ∨ op = 11 ∨ op = 12 ∨ op = 13 ∨ op = 14 ∨ op = 15 ∨ op = 16 ∨ op = 17 ∨ op = 18 ∨ op = 19 ∨ op = 20 ∨ op = 21 ∨ 22 ≤ op := by omega
theorem eqF {op k : Int} (h : op ≠ k) : (op == k) = false := by simpa using h
theorem rTakes (op : Int) : N12 (op, ()) = some (tkn op, ()) := by
  rcases op_cases op with h | rfl | rfl | rfl | rfl | rfl | rfl | rfl | rfl | rfl | rfl | rfl | rfl | rfl | rfl | rfl | rfl | rfl | rfl | rfl | rfl | rfl | h
  · unfold N12 M12
    simp only [eqF (show op ≠ 1 by omega), eqF (show op ≠ 2 by omega), eqF (show op ≠ 3 by omega), eqF (show op ≠ 4 by omega), eqF (show op ≠ 10 by omega), eqF (show op ≠ 11 by omega), eqF (show op ≠ 12 by omega), eqF (show op ≠ 13 by omega), eqF (show op ≠ 14 by omega), eqF (show op ≠ 15 by omega), decide_eq_false (show ¬ op ≥ 1 by omega), decide_eq_false (show ¬ op ≥ 5 by omega), decide_eq_false (show ¬ op ≥ 10 by omega), decide_eq_false (show ¬ op ≥ 16 by omega), decide_eq_false (show ¬ op > 15 by omega), cond_false]
    unfold tkn
    rw [if_neg (by omega), if_neg (by omega), if_neg (by omega)]
  rotate_right 1
  · unfold N12 M12
    simp only [eqF (show op ≠ 1 by omega), eqF (show op ≠ 2 by omega), eqF (show op ≠ 3 by omega), eqF (show op ≠ 4 by omega), eqF (show op ≠ 10 by omega), eqF (show op ≠ 11 by omega), eqF (show op ≠ 12 by omega), eqF (show op ≠ 13 by omega), eqF (show op ≠ 14 by omega), eqF (show op ≠ 15 by omega), decide_eq_true (show op ≥ 1 by omega), decide_eq_true (show op ≥ 5 by omega), decide_eq_true (show op ≥ 10 by omega), decide_eq_true (show op ≥ 16 by omega), decide_eq_true (show op > 15 by omega), decide_eq_false (show ¬ op ≤ 3 by omega), decide_eq_false (show ¬ op ≤ 9 by omega), decide_eq_false (show ¬ op ≤ 14 by omega), decide_eq_false (show ¬ op ≤ 21 by omega), cond_false, cond_true]
    unfold tkn
    rw [if_neg (by omega), if_neg (by omega), if_neg (by omega)]
  all_goals rfl
theorem rLays (op : Int) : N13 (op, ()) = some (lyn op, ()) := by
  unfold N13 M13 lyn
  simp only [bif_p]
  split <;> rfl
theorem rArgs (p : Prg) (op : Int) : N28 (p, op, ()) = some (arn p op, ()) := by
  obtain ⟨mode, scale, sizes, consts, scales, code⟩ := p
  rcases op_cases op with h | rfl | rfl | rfl | rfl | rfl | rfl | rfl | rfl | rfl | rfl | rfl | rfl | rfl | rfl | rfl | rfl | rfl | rfl | rfl | rfl | rfl | h
  · unfold N28 M28
    simp only [eqF (show op ≠ 1 by omega), eqF (show op ≠ 2 by omega), eqF (show op ≠ 3 by omega), eqF (show op ≠ 4 by omega), eqF (show op ≠ 10 by omega), eqF (show op ≠ 11 by omega), eqF (show op ≠ 12 by omega), eqF (show op ≠ 13 by omega), eqF (show op ≠ 14 by omega), eqF (show op ≠ 15 by omega), decide_eq_false (show ¬ op ≥ 1 by omega), decide_eq_false (show ¬ op ≥ 5 by omega), decide_eq_false (show ¬ op ≥ 10 by omega), decide_eq_false (show ¬ op ≥ 16 by omega), decide_eq_false (show ¬ op > 15 by omega), cond_false]
    unfold arn
    rw [if_neg (by omega), if_neg (by omega), if_neg (by omega), if_neg (by omega)]
  rotate_right 1
  · unfold N28 M28
    simp only [eqF (show op ≠ 1 by omega), eqF (show op ≠ 2 by omega), eqF (show op ≠ 3 by omega), eqF (show op ≠ 4 by omega), eqF (show op ≠ 10 by omega), eqF (show op ≠ 11 by omega), eqF (show op ≠ 12 by omega), eqF (show op ≠ 13 by omega), eqF (show op ≠ 14 by omega), eqF (show op ≠ 15 by omega), decide_eq_true (show op ≥ 1 by omega), decide_eq_true (show op ≥ 5 by omega), decide_eq_true (show op ≥ 10 by omega), decide_eq_true (show op ≥ 16 by omega), decide_eq_true (show op > 15 by omega), decide_eq_false (show ¬ op ≤ 3 by omega), decide_eq_false (show ¬ op ≤ 9 by omega), decide_eq_false (show ¬ op ≤ 14 by omega), decide_eq_false (show ¬ op ≤ 21 by omega), cond_false, cond_true]
    unfold arn
    rw [if_neg (by omega), if_neg (by omega), if_neg (by omega), if_pos (by omega)]
  all_goals rfl
def whatans (p : Prg) (op : Int) : (Int × Int × Int × Bool) × Bool × Unit := if tkn op < 0 then ((0, 0, 0, false), false, ()) else ((tkn op, lyn op, arn p op, decide (op ≥ 15)), true, ())
theorem eWhat (p : Prg) (op : Int) : N23 (p, op, ()) = some (whatans p op) := by
  obtain ⟨mode, scale, sizes, consts, scales, code⟩ := p
  rcases op_cases op with h | rfl | rfl | rfl | rfl | rfl | rfl | rfl | rfl | rfl | rfl | rfl | rfl | rfl | rfl | rfl | rfl | rfl | rfl | rfl | rfl | rfl | h
  · unfold N23 M23
    simp only [eqF (show op ≠ 1 by omega), eqF (show op ≠ 2 by omega), eqF (show op ≠ 3 by omega), eqF (show op ≠ 4 by omega), eqF (show op ≠ 10 by omega), eqF (show op ≠ 11 by omega), eqF (show op ≠ 12 by omega), eqF (show op ≠ 13 by omega), eqF (show op ≠ 14 by omega), eqF (show op ≠ 15 by omega), decide_eq_false (show ¬ op ≥ 1 by omega), decide_eq_false (show ¬ op ≥ 5 by omega), decide_eq_false (show ¬ op ≥ 10 by omega), decide_eq_false (show ¬ op ≥ 16 by omega), decide_eq_false (show ¬ op > 15 by omega), cond_false]
    unfold whatans
    rw [if_pos (by unfold tkn; rw [if_neg (by omega), if_neg (by omega), if_neg (by omega)]; decide)]
  rotate_right 1
  · unfold N23 M23
    simp only [eqF (show op ≠ 1 by omega), eqF (show op ≠ 2 by omega), eqF (show op ≠ 3 by omega), eqF (show op ≠ 4 by omega), eqF (show op ≠ 10 by omega), eqF (show op ≠ 11 by omega), eqF (show op ≠ 12 by omega), eqF (show op ≠ 13 by omega), eqF (show op ≠ 14 by omega), eqF (show op ≠ 15 by omega), decide_eq_true (show op ≥ 1 by omega), decide_eq_true (show op ≥ 5 by omega), decide_eq_true (show op ≥ 10 by omega), decide_eq_true (show op ≥ 16 by omega), decide_eq_true (show op > 15 by omega), decide_eq_false (show ¬ op ≤ 3 by omega), decide_eq_false (show ¬ op ≤ 9 by omega), decide_eq_false (show ¬ op ≤ 14 by omega), decide_eq_false (show ¬ op ≤ 21 by omega), cond_false, cond_true]
    unfold whatans
    rw [if_pos (by unfold tkn; rw [if_neg (by omega), if_neg (by omega), if_neg (by omega)]; decide)]
  all_goals rfl
/-- The greater one, of an old one and a new one. -/
def mx (a b : Int) : Int := if b > a then b else a
/-- A way leads to a place. -/
def rch (pl : Pl) (most : Int) (i : Nat) (h s : Int) : Int × Pl × Int :=
  if 0 ≤ (pl.getD i (-1, 0)).1 ∧ (pl.getD i (-1, 0)).1 ≠ h then (171, pl, most) else (0, pl.set i (h, mx (pl.getD i (-1, 0)).2 s), mx most h)
theorem set_get_same {γ : Type} {l : List γ} {i : Nat} (h : i < l.length) : l.set i l[i] = l := by simp
theorem eReach (p : Prg) {pl : Pl} {most h s : Int} {i : Nat} (hi : i < pl.length) : N24 ((p, pl, most, ()), (i : Int), h, s, ()) = some ((rch pl most i h s).1, (p, (rch pl most i h s).2.1, (rch pl most i h s).2.2, ()), ()) := by
  obtain ⟨mode, scale, sizes, consts, scales, code⟩ := p
  unfold N24 M24 rch
  simp only []
  have hb : (decide (0 ≤ (i : Int)) && decide ((i : Int) < (pl.length : Int))) = true := by rw [decide_eq_true (show 0 ≤ (i : Int) by omega), decide_eq_true (show (i : Int) < (pl.length : Int) by omega)]; rfl
  rw [bif_f (decide_eq_false (show ¬ (i : Int) ≥ (pl.length : Int) by omega)), hb]
  simp only [Int.toNat_natCast, List.getElem?_eq_getElem hi, Option.bind_some, cond_true]
  rw [getD_at hi, bif_p]
  by_cases h0 : pl[i].1 ≥ 0
  · rw [if_pos h0, bif_ne]
    by_cases h1 : pl[i].1 = h
    · rw [if_pos h1, if_neg (show ¬ (0 ≤ pl[i].1 ∧ pl[i].1 ≠ h) by omega), List.getElem?_set_self hi]
      simp only [Option.bind_some]
      rw [List.set_set]
      rfl
    · rw [if_neg h1, if_pos (by omega)]
  · rw [if_neg h0, if_neg (show ¬ (0 ≤ pl[i].1 ∧ pl[i].1 ≠ h) by omega), List.getElem?_set_self hi]
    simp only [Option.bind_some]
    rw [List.set_set]
    rfl
theorem rWay {pl : Pl} {most h s : Int} {i : Nat} (hi : i < pl.length) : N29 ((pl.map (·.1), pl.map (·.2), most, ()), (i : Int), h, s, ()) = some ((rch pl most i h s).1, ((rch pl most i h s).2.1.map (·.1), (rch pl most i h s).2.1.map (·.2), (rch pl most i h s).2.2, ()), ()) := by
  unfold N29 M29 rch
  simp only []
  have h1 : i < (pl.map (·.1)).length := by simpa using hi
  have h2 : i < (pl.map (·.2)).length := by simpa using hi
  have hb : ∀ n : Nat, i < n → (decide (0 ≤ (i : Int)) && decide ((i : Int) < (n : Int))) = true := fun n hn => by rw [decide_eq_true (show 0 ≤ (i : Int) by omega), decide_eq_true (show (i : Int) < (n : Int) by omega)]; rfl
  rw [hb _ h1, hb _ h2]
  simp only [Int.toNat_natCast, List.getElem?_eq_getElem h1, List.getElem?_eq_getElem h2, Option.bind_some, cond_true, List.getElem_map]
  rw [getD_at hi]
  have hs : ∀ x : Int × Int, (pl.set i x).map (·.1) = (pl.map (·.1)).set i x.1 ∧ (pl.set i x).map (·.2) = (pl.map (·.2)).set i x.2 := fun x => ⟨List.map_set, List.map_set⟩
  have keep : (pl.map (·.2)).set i pl[i].2 = pl.map (·.2) := by
    have := set_get_same (l := pl.map (·.2)) h2
    rwa [List.getElem_map] at this
  have fin : (bif decide (s > pl[i].2) then (bif decide (h > most) then some ((0 : Int), ((pl.map (·.1)).set i h, (pl.map (·.2)).set i s, h, ()), ()) else some (0, ((pl.map (·.1)).set i h, (pl.map (·.2)).set i s, most, ()), ())) else (bif decide (h > most) then some (0, ((pl.map (·.1)).set i h, pl.map (·.2), h, ()), ()) else some (0, ((pl.map (·.1)).set i h, pl.map (·.2), most, ()), ()))) = some (0, ((pl.set i (h, mx pl[i].2 s)).map (·.1), (pl.set i (h, mx pl[i].2 s)).map (·.2), mx most h, ()), ()) := by
    rw [(hs _).1, (hs _).2]
    unfold mx
    by_cases c2 : s > pl[i].2
    · by_cases c3 : h > most
      · rw [decide_eq_true c2, decide_eq_true c3, if_pos c2, if_pos c3]; rfl
      · rw [decide_eq_true c2, decide_eq_false c3, if_pos c2, if_neg c3]; rfl
    · by_cases c3 : h > most
      · rw [decide_eq_false c2, decide_eq_true c3, if_neg c2, if_pos c3, keep]; rfl
      · rw [decide_eq_false c2, decide_eq_false c3, if_neg c2, if_neg c3, keep]; rfl
  by_cases c0 : pl[i].1 ≥ 0
  · rw [bif_t (decide_eq_true c0), bif_ne]
    by_cases c1 : pl[i].1 = h
    · rw [if_pos c1, if_neg (by omega)]
      exact fin
    · rw [if_neg c1, if_pos (by omega)]
  · rw [bif_f (decide_eq_false c0), if_neg (by omega)]
    exact fin
/-- An instruction. -/
def stp (p : Prg) (pl : Pl) (most : Int) (i : Nat) : Int × Pl × Int :=
  if (pl.getD i (-1, 0)).1 < 0 then (172, pl, most)
  else if tkn (p.2.2.2.2.2.getD i (0, 0, 0)).1 < 0 then (170, pl, most)
  else if (p.2.2.2.2.2.getD i (0, 0, 0)).2.1 ≥ arn p (p.2.2.2.2.2.getD i (0, 0, 0)).1 then (170, pl, most)
  else if (p.2.2.2.2.2.getD i (0, 0, 0)).1 < 15 ∧ (p.2.2.2.2.2.getD i (0, 0, 0)).2.2 ≠ 0 then (170, pl, most)
  else if (pl.getD i (-1, 0)).1 < tkn (p.2.2.2.2.2.getD i (0, 0, 0)).1 then (171, pl, most)
  else if (pl.getD i (-1, 0)).1 - tkn (p.2.2.2.2.2.getD i (0, 0, 0)).1 + lyn (p.2.2.2.2.2.getD i (0, 0, 0)).1 > 1024 then (171, pl, most)
  else if (i : Int) + 1 + (p.2.2.2.2.2.getD i (0, 0, 0)).2.2 > (p.2.2.2.2.2.length : Int) then (172, pl, most)
  else if (p.2.2.2.2.2.getD i (0, 0, 0)).1 = 15 then rch pl most (i + 1 + (p.2.2.2.2.2.getD i (0, 0, 0)).2.2.toNat) ((pl.getD i (-1, 0)).1 - tkn (p.2.2.2.2.2.getD i (0, 0, 0)).1 + lyn (p.2.2.2.2.2.getD i (0, 0, 0)).1) ((pl.getD i (-1, 0)).2 + 1)
  else if (rch pl most (i + 1) ((pl.getD i (-1, 0)).1 - tkn (p.2.2.2.2.2.getD i (0, 0, 0)).1 + lyn (p.2.2.2.2.2.getD i (0, 0, 0)).1) ((pl.getD i (-1, 0)).2 + 1)).1 ≠ 0 then rch pl most (i + 1) ((pl.getD i (-1, 0)).1 - tkn (p.2.2.2.2.2.getD i (0, 0, 0)).1 + lyn (p.2.2.2.2.2.getD i (0, 0, 0)).1) ((pl.getD i (-1, 0)).2 + 1)
  else if (p.2.2.2.2.2.getD i (0, 0, 0)).1 < 15 then rch pl most (i + 1) ((pl.getD i (-1, 0)).1 - tkn (p.2.2.2.2.2.getD i (0, 0, 0)).1 + lyn (p.2.2.2.2.2.getD i (0, 0, 0)).1) ((pl.getD i (-1, 0)).2 + 1)
  else rch (rch pl most (i + 1) ((pl.getD i (-1, 0)).1 - tkn (p.2.2.2.2.2.getD i (0, 0, 0)).1 + lyn (p.2.2.2.2.2.getD i (0, 0, 0)).1) ((pl.getD i (-1, 0)).2 + 1)).2.1 (rch pl most (i + 1) ((pl.getD i (-1, 0)).1 - tkn (p.2.2.2.2.2.getD i (0, 0, 0)).1 + lyn (p.2.2.2.2.2.getD i (0, 0, 0)).1) ((pl.getD i (-1, 0)).2 + 1)).2.2 (i + 1 + (p.2.2.2.2.2.getD i (0, 0, 0)).2.2.toNat) ((pl.getD i (-1, 0)).1 - tkn (p.2.2.2.2.2.getD i (0, 0, 0)).1 + lyn (p.2.2.2.2.2.getD i (0, 0, 0)).1) ((pl.getD i (-1, 0)).2 + 1)
theorem rch_len (pl : Pl) (most : Int) (i : Nat) (h s : Int) : (rch pl most i h s).2.1.length = pl.length := by
  unfold rch
  split <;> simp
/-- The pile's places are within their bounds. -/
structure Rg (p : Prg) (pl : Pl) (most : Int) (i : Nat) : Prop where
  len : pl.length = p.2.2.2.2.2.length + 1
  n : p.2.2.2.2.2.length ≤ 8192
  ins : ∀ c ∈ p.2.2.2.2.2, badInstr c = false
  hs : ∀ x ∈ pl, (-1 ≤ x.1 ∧ x.1 ≤ 1024) ∧ (0 ≤ x.2 ∧ x.2 ≤ (i : Int))
  m : 0 ≤ most ∧ most ≤ 1024
theorem badInstr_in {c : Int × Int × Int} (h : badInstr c = false) : (0 ≤ c.1 ∧ c.1 ≤ 255) ∧ (0 ≤ c.2.1 ∧ c.2.1 ≤ 65535) ∧ (0 ≤ c.2.2 ∧ c.2.2 ≤ 65535) := by
  unfold badInstr at h
  simp only [Bool.or_eq_false_iff, decide_eq_false_iff_not] at h
  omega
theorem tkn_in (op : Int) : -1 ≤ tkn op ∧ tkn op ≤ 2 := by unfold tkn; (repeat' split) <;> omega
theorem lyn_in (op : Int) : 0 ≤ lyn op ∧ lyn op ≤ 1 := by unfold lyn; split <;> omega
section
variable {p : Prg} {pl : Pl} {most : Int} {i : Nat} (R : Rg p pl most i) (hi : i < p.2.2.2.2.2.length)
include R hi
theorem eOne : N16 ((p, pl, most, ()), (i : Int), ()) = some ((stp p pl most i).1, (p, (stp p pl most i).2.1, (stp p pl most i).2.2, ()), ()) := by
  have hl := R.len
  have hn := R.n
  have hip : i < pl.length := by omega
  have hx := R.hs pl[i] (List.getElem_mem hip)
  have hc := badInstr_in (R.ins _ (List.getElem_mem hi))
  have hr := fun (pl' : Pl) (most' h s : Int) (j : Nat) (hj : j < pl'.length) => eReach p (pl := pl') (most := most') (h := h) (s := s) hj
  have hw := eWhat p
  unfold stp
  obtain ⟨mode, scale, sizes, consts, scales, code⟩ := p
  unfold N16 M16
  simp only [] at hl hn hi hc ⊢
  rw [at_get hi, getD_at hi, getD_at hip]
  have hb : (decide (0 ≤ (i : Int)) && decide ((i : Int) < (pl.length : Int))) = true := by rw [decide_eq_true (show 0 ≤ (i : Int) by omega), decide_eq_true (show (i : Int) < (pl.length : Int) by omega)]; rfl
  rw [hb]
  simp only [Option.bind_some, cond_true, Int.toNat_natCast]
  rw [List.getElem?_eq_getElem hip]
  simp only [Option.bind_some]
  generalize hcv : code[i] = c at *
  generalize hxv : pl[i] = x at *
  obtain ⟨op, arg, skip⟩ := c
  obtain ⟨h, s⟩ := x
  simp only [] at hc hx ⊢
  obtain ⟨⟨c0, c1⟩, ⟨c2, c3⟩, c4, c5⟩ := hc
  obtain ⟨⟨x0, x1⟩, x2, x3⟩ := hx
  have tk := tkn_in op
  have ly := lyn_in op
  by_cases k1 : h < 0
  · rw [bif_t (decide_eq_true k1), if_pos k1]
  rw [bif_f (decide_eq_false k1), if_neg k1, hw op]
  simp only [Option.bind_some]
  unfold whatans
  by_cases k2 : tkn op < 0
  · rw [if_pos k2, if_pos k2]
    rfl
  rw [if_neg k2, if_neg k2]
  simp only [Bool.not_true, cond_false]
  by_cases k3 : arg ≥ arn (mode, scale, sizes, consts, scales, code) op
  · rw [bif_t (decide_eq_true k3), if_pos k3]
  rw [bif_f (decide_eq_false k3), if_neg k3]
  have hskip : IntKind.wrap .i64 ((i : Int) + 1) = ((i + 1 : Nat) : Int) := by rw [wsi (by omega)]; omega
  have hfar : IntKind.wrap .i64 (((i + 1 : Nat) : Int) + skip) = ((i + 1 + skip.toNat : Nat) : Int) := by rw [wsi (by omega)]; omega
  rw [wsi (n := h - tkn op) (by omega), wsi (n := h - tkn op + lyn op) (by omega), wsi (n := s + 1) (by omega), hskip, hfar]
  by_cases k4 : op ≥ 15
  · rw [decide_eq_true k4]
    simp only [Bool.not_true, cond_false, cond_true]
    rw [if_neg (show ¬ (op < 15 ∧ skip ≠ 0) by omega)]
    by_cases k5 : h < tkn op
    · rw [bif_t (decide_eq_true k5), if_pos k5]
    rw [bif_f (decide_eq_false k5), if_neg k5]
    by_cases k6 : h - tkn op + lyn op > 1024
    · rw [bif_t (decide_eq_true k6), if_pos k6]
    rw [bif_f (decide_eq_false k6), if_neg k6]
    by_cases k7 : (i : Int) + 1 + skip > (code.length : Int)
    · rw [bif_t (decide_eq_true (by omega)), if_pos k7]
    rw [bif_f (decide_eq_false (by omega)), if_neg k7, bif_ne]
    by_cases k8 : op = 15
    · rw [if_pos k8, if_pos k8, hr pl most _ _ _ (by omega)]
      rfl
    · rw [if_neg k8, if_neg k8, hr pl most _ _ _ (by omega)]
      simp only [Option.bind_some]
      have hl1 := rch_len pl most (i + 1) (h - tkn op + lyn op) (s + 1)
      generalize rch pl most (i + 1) (h - tkn op + lyn op) (s + 1) = y at *
      obtain ⟨y0, y1, y2⟩ := y
      simp only [] at hl1 ⊢
      rw [bif_ne]
      by_cases k9 : y0 = 0
      · rw [if_pos k9, if_neg (by omega), if_neg (by omega), hr y1 y2 _ _ _ (by omega)]
        rfl
      · rw [if_neg k9, if_pos k9]
  · rw [decide_eq_false k4]
    simp only [Bool.not_false, cond_false, cond_true]
    rw [bif_ne]
    by_cases k4b : skip = 0
    rotate_left
    · rw [if_neg k4b, if_pos (show op < 15 ∧ skip ≠ 0 from ⟨by omega, k4b⟩)]
    rw [if_pos k4b, if_neg (show ¬ (op < 15 ∧ skip ≠ 0) by omega)]
    by_cases k5 : h < tkn op
    · rw [bif_t (decide_eq_true k5), if_pos k5]
    rw [bif_f (decide_eq_false k5), if_neg k5]
    by_cases k6 : h - tkn op + lyn op > 1024
    · rw [bif_t (decide_eq_true k6), if_pos k6]
    rw [bif_f (decide_eq_false k6), if_neg k6]
    by_cases k7 : (i : Int) + 1 + skip > (code.length : Int)
    · rw [bif_t (decide_eq_true (by omega)), if_pos k7]
    rw [bif_f (decide_eq_false (by omega)), if_neg k7, bif_ne, if_neg (show ¬ op = 15 by omega), if_neg (show ¬ op = 15 by omega), hr pl most _ _ _ (by omega)]
    simp only [Option.bind_some]
    generalize rch pl most (i + 1) (h - tkn op + lyn op) (s + 1) = y at *
    obtain ⟨y0, y1, y2⟩ := y
    simp only []
    rw [bif_ne]
    by_cases k9 : y0 = 0
    · rw [if_pos k9, if_neg (by omega), if_pos (by omega), k9]
    · rw [if_neg k9, if_pos k9]
theorem rOne : N18 ((pl.map (·.1), pl.map (·.2), most, ()), p, (i : Int), ()) = some ((stp p pl most i).1, ((stp p pl most i).2.1.map (·.1), (stp p pl most i).2.1.map (·.2), (stp p pl most i).2.2, ()), ()) := by
  have hl := R.len
  have hn := R.n
  have hip : i < pl.length := by omega
  have hx := R.hs pl[i] (List.getElem_mem hip)
  have hc := badInstr_in (R.ins _ (List.getElem_mem hi))
  have hr := fun (pl' : Pl) (most' h s : Int) (j : Nat) (hj : j < pl'.length) => rWay (pl := pl') (most := most') (h := h) (s := s) hj
  have hw := rArgs p
  have hset : ∀ (h s : Int), (rch pl most (i + 1) h s).2.1[i]? = pl[i]? := fun h s => by
    unfold rch
    split
    · rfl
    · exact List.getElem?_set_ne (by omega)
  unfold stp
  obtain ⟨mode, scale, sizes, consts, scales, code⟩ := p
  unfold N18 M18
  simp only [] at hl hn hi hc ⊢
  rw [at_get hi, getD_at hi, getD_at hip]
  have hb : ∀ n : Nat, i < n → (decide (0 ≤ (i : Int)) && decide ((i : Int) < (n : Int))) = true := fun n hn => by rw [decide_eq_true (show 0 ≤ (i : Int) by omega), decide_eq_true (show (i : Int) < (n : Int) by omega)]; rfl
  rw [hb _ (show i < (pl.map (·.1)).length by simpa using hip), hb _ (show i < (pl.map (·.2)).length by simpa using hip)]
  simp only [Option.bind_some, cond_true, Int.toNat_natCast, List.getElem?_map]
  rw [List.getElem?_eq_getElem hip]
  rw [List.getElem?_eq_getElem hip] at hset
  simp only [Option.bind_some, Option.map_some]
  generalize hcv : code[i] = c at *
  generalize hxv : pl[i] = x at *
  obtain ⟨op, arg, skip⟩ := c
  obtain ⟨h, s⟩ := x
  simp only [] at hc hx ⊢
  obtain ⟨⟨c0, c1⟩, ⟨c2, c3⟩, c4, c5⟩ := hc
  obtain ⟨⟨x0, x1⟩, x2, x3⟩ := hx
  have tk := tkn_in op
  have ly := lyn_in op
  by_cases k1 : h < 0
  · rw [bif_t (decide_eq_true k1), if_pos k1]
  rw [bif_f (decide_eq_false k1), if_neg k1, rTakes op]
  simp only [Option.bind_some]
  by_cases k2 : tkn op < 0
  · rw [bif_t (decide_eq_true k2), if_pos k2]
  rw [bif_f (decide_eq_false k2), if_neg k2, hw op]
  simp only [Option.bind_some]
  by_cases k3 : arg ≥ arn (mode, scale, sizes, consts, scales, code) op
  · rw [bif_t (decide_eq_true k3), if_pos k3]
  rw [bif_f (decide_eq_false k3), if_neg k3, rLays op]
  simp only [Option.bind_some]
  have hskip : IntKind.wrap .i64 ((i : Int) + 1) = ((i + 1 : Nat) : Int) := by rw [wsi (by omega)]; omega
  have hfar : IntKind.wrap .i64 (((i + 1 : Nat) : Int) + skip) = ((i + 1 + skip.toNat : Nat) : Int) := by rw [wsi (by omega)]; omega
  rw [wsi (n := h - tkn op) (by omega), wsi (n := h - tkn op + lyn op) (by omega), wsi (n := s + 1) (by omega), hskip, hfar]
  by_cases k4 : op < 15
  · rw [bif_t (decide_eq_true k4), bif_ne]
    by_cases k4b : skip = 0
    rotate_left
    · rw [if_neg k4b, if_pos (show op < 15 ∧ skip ≠ 0 from ⟨by omega, k4b⟩)]
    rw [if_pos k4b, if_neg (show ¬ (op < 15 ∧ skip ≠ 0) by omega)]
    by_cases k5 : h < tkn op
    · rw [bif_t (decide_eq_true k5), if_pos k5]
    rw [bif_f (decide_eq_false k5), if_neg k5]
    by_cases k6 : h - tkn op + lyn op > 1024
    · rw [bif_t (decide_eq_true k6), if_pos k6]
    rw [bif_f (decide_eq_false k6), if_neg k6]
    by_cases k7 : (i : Int) + 1 + skip > (code.length : Int)
    · rw [bif_t (decide_eq_true (by omega)), if_pos k7]
    rw [bif_f (decide_eq_false (by omega)), if_neg k7, bif_ne, if_neg (show ¬ op = 15 by omega), if_neg (show ¬ op = 15 by omega), hr pl most _ _ _ (by omega)]
    simp only [Option.bind_some]
    generalize rch pl most (i + 1) (h - tkn op + lyn op) (s + 1) = y at *
    obtain ⟨y0, y1, y2⟩ := y
    simp only []
    rw [bif_ne]
    by_cases k9 : y0 = 0
    · rw [if_pos k9, bif_f (decide_eq_false (by omega)), if_neg (by omega), if_pos k4, k9]
    · rw [if_neg k9, if_pos k9]
  · rw [bif_f (decide_eq_false k4)]
    rw [if_neg (show ¬ (op < 15 ∧ skip ≠ 0) by omega)]
    by_cases k5 : h < tkn op
    · rw [bif_t (decide_eq_true k5), if_pos k5]
    rw [bif_f (decide_eq_false k5), if_neg k5]
    by_cases k6 : h - tkn op + lyn op > 1024
    · rw [bif_t (decide_eq_true k6), if_pos k6]
    rw [bif_f (decide_eq_false k6), if_neg k6]
    by_cases k7 : (i : Int) + 1 + skip > (code.length : Int)
    · rw [bif_t (decide_eq_true (by omega)), if_pos k7]
    rw [bif_f (decide_eq_false (by omega)), if_neg k7, bif_ne, bif_t (decide_eq_true (show op ≥ 15 by omega))]
    by_cases k8 : op = 15
    · rw [if_pos k8, if_pos k8, hr pl most _ _ _ (by omega)]
      rfl
    · rw [if_neg k8, if_neg k8, hr pl most _ _ _ (by omega)]
      simp only [Option.bind_some]
      have hl1 := rch_len pl most (i + 1) (h - tkn op + lyn op) (s + 1)
      have hs1 := hset (h - tkn op + lyn op) (s + 1)
      generalize rch pl most (i + 1) (h - tkn op + lyn op) (s + 1) = y at *
      obtain ⟨y0, y1, y2⟩ := y
      simp only [] at hl1 hs1 ⊢
      rw [bif_ne]
      by_cases k9 : y0 = 0
      · rw [if_pos k9, if_neg (by omega), if_neg (by omega), bif_t (decide_eq_true (show op ≥ 15 by omega)), hb _ (show i < (y1.map (·.2)).length by simp; omega)]
        simp only [Option.bind_some, cond_true, List.getElem?_map]
        rw [hs1]
        simp only [Option.map_some, Option.bind_some]
        rw [wsi (n := s + 1) (by omega), hr y1 y2 _ _ _ (by omega)]
        rfl
      · rw [if_neg k9, if_pos k9]
end
end Go.Proofs.Ytigjckjkhnokbaa.E
namespace Go.Proofs.Ytigjckjkhnokbaa.E
open Go
set_option linter.unusedVariables false
set_option linter.unusedSimpArgs false
set_option maxRecDepth 100000
theorem mem_set {γ : Type} {l : List γ} {i : Nat} {a x : γ} (h : x ∈ l.set i a) : x ∈ l ∨ x = a := List.mem_or_eq_of_mem_set h
theorem rch_rg {p : Prg} {pl : Pl} {most h s : Int} {i j : Nat} (R : Rg p pl most i) (hh : 0 ≤ h ∧ h ≤ 1024) (hs : 0 ≤ s ∧ s ≤ (i : Int) + 1) : Rg p (rch pl most j h s).2.1 (rch pl most j h s).2.2 (i + 1) := by
  have up : ∀ x ∈ pl, (-1 ≤ x.1 ∧ x.1 ≤ 1024) ∧ (0 ≤ x.2 ∧ x.2 ≤ ((i + 1 : Nat) : Int)) := fun x hx => by have := R.hs x hx; omega
  unfold rch
  split
  · exact ⟨R.len, R.n, R.ins, up, R.m⟩
  · refine ⟨by rw [List.length_set]; exact R.len, R.n, R.ins, fun x hx => ?_, ?_⟩
    · rcases mem_set hx with hx | rfl
      · exact up x hx
      · have : 0 ≤ (pl.getD j (-1, 0)).2 ∧ (pl.getD j (-1, 0)).2 ≤ (i : Int) := by
          by_cases hj : j < pl.length
          · rw [getD_at hj]; exact (R.hs _ (List.getElem_mem hj)).2
          · rw [List.getD_eq_getElem?_getD, List.getElem?_eq_none (by omega)]
            simp
        simp only [mx]
        split <;> omega
    · have := R.m
      simp only [mx]
      split <;> omega
theorem rch_rg2 {p : Prg} {pl : Pl} {most h s : Int} {i j : Nat} (R : Rg p pl most (i + 1)) (hh : 0 ≤ h ∧ h ≤ 1024) (hs : 0 ≤ s ∧ s ≤ (i : Int) + 1) : Rg p (rch pl most j h s).2.1 (rch pl most j h s).2.2 (i + 1) := by
  unfold rch
  split
  · exact R
  · refine ⟨by rw [List.length_set]; exact R.len, R.n, R.ins, fun x hx => ?_, ?_⟩
    · rcases mem_set hx with hx | rfl
      · exact R.hs x hx
      · have : 0 ≤ (pl.getD j (-1, 0)).2 ∧ (pl.getD j (-1, 0)).2 ≤ ((i + 1 : Nat) : Int) := by
          by_cases hj : j < pl.length
          · rw [getD_at hj]; exact (R.hs _ (List.getElem_mem hj)).2
          · rw [List.getD_eq_getElem?_getD, List.getElem?_eq_none (by omega)]
            simp
            omega
        simp only [mx]
        split <;> omega
    · have := R.m
      simp only [mx]
      split <;> omega
theorem stp_rg {p : Prg} {pl : Pl} {most : Int} {i : Nat} (R : Rg p pl most i) (hi : i < p.2.2.2.2.2.length) : Rg p (stp p pl most i).2.1 (stp p pl most i).2.2 (i + 1) := by
  have hip : i < pl.length := by have := R.len; omega
  have hx := R.hs pl[i] (List.getElem_mem hip)
  have up : Rg p pl most (i + 1) := ⟨R.len, R.n, R.ins, fun x hx => by have := R.hs x hx; omega, R.m⟩
  unfold stp
  rw [getD_at hip, getD_at hi]
  have tk := tkn_in p.2.2.2.2.2[i].1
  have ly := lyn_in p.2.2.2.2.2[i].1
  split
  · exact up
  split
  · exact up
  split
  · exact up
  split
  · exact up
  split
  · exact up
  split
  · exact up
  split
  · exact up
  have hh : 0 ≤ pl[i].1 - tkn p.2.2.2.2.2[i].1 + lyn p.2.2.2.2.2[i].1 ∧ pl[i].1 - tkn p.2.2.2.2.2[i].1 + lyn p.2.2.2.2.2[i].1 ≤ 1024 := by omega
  have hs : 0 ≤ pl[i].2 + 1 ∧ pl[i].2 + 1 ≤ (i : Int) + 1 := by omega
  split
  · exact rch_rg R hh hs
  split
  · exact rch_rg R hh hs
  split
  · exact rch_rg R hh hs
  · exact rch_rg2 (rch_rg R hh hs) hh hs
/-- The instructions, one by one. -/
def vrun (p : Prg) : Nat → Nat → Pl → Int → Int × Pl × Int
  | 0, _, pl, most => (0, pl, most)
  | m + 1, i, pl, most => if (stp p pl most i).1 ≠ 0 then stp p pl most i else vrun p m (i + 1) (stp p pl most i).2.1 (stp p pl most i).2.2
def pl0 (n : Nat) : Pl := (0, 0) :: List.replicate n (-1, 0)
def vend (n : Nat) (x : Int × Pl × Int) : (Int × Int) × Int × Unit :=
  if x.1 ≠ 0 then ((0, 0), x.1, ()) else if (x.2.1.getD n (-1, 0)).1 < 0 then ((0, 0), 172, ()) else if (x.2.1.getD n (-1, 0)).1 ≠ 1 then ((0, 0), 171, ()) else (((x.2.1.getD n (-1, 0)).2, x.2.2), 0, ())
def vshape (p : Prg) : (Int × Int) × Int × Unit := vend p.2.2.2.2.2.length (vrun p p.2.2.2.2.2.length 0 (pl0 p.2.2.2.2.2.length) 0)
def vans (b : List Int) : (Int × Int) × Int × Unit := if (decans b).2.1 ≠ 0 then ((0, 0), (decans b).2.1, ()) else vshape (decans b).1
theorem Rg.start {p : Prg} (hc : chk p = 0) : Rg p (pl0 p.2.2.2.2.2.length) 0 0 := by
  have f := (chk_fit hc).d
  refine ⟨by simp [pl0], f, (chk_more hc).2.2, fun x hx => ?_, by omega⟩
  unfold pl0 at hx
  rcases List.mem_cons.1 hx with rfl | hx
  · simp
  · rw [(List.mem_replicate.1 hx).2]
    simp
theorem vrun_len {p : Prg} : ∀ (m i : Nat) (pl : Pl) (most : Int), Rg p pl most i → i + m ≤ p.2.2.2.2.2.length → (vrun p m i pl most).2.1.length = p.2.2.2.2.2.length + 1
  | 0, i, pl, most, R, h => R.len
  | m + 1, i, pl, most, R, h => by
    unfold vrun
    split
    · exact (stp_rg R (by omega)).len
    · exact vrun_len m (i + 1) _ _ (stp_rg R (by omega)) (by omega)
section
variable {p : Prg} (z : Int × Int × Unit)
theorem e_run : ∀ (m i : Nat) (pl : Pl) (most : Int), Rg p pl most i → i + m = p.2.2.2.2.2.length →
    itr R8_2 (m + 1) (z, (p.1, p.2.1, p.2.2.1, p.2.2.2.1, p.2.2.2.2.1, p.2.2.2.2.2, ()), (p, pl, most, ()), (p.2.2.2.2.2.length : Int), (i : Int), ()) =
      some (if (vrun p m i pl most).1 ≠ 0 then .inr ((0, 0, ()), (vrun p m i pl most).1, ()) else .inl (z, (p.1, p.2.1, p.2.2.1, p.2.2.2.1, p.2.2.2.2.1, p.2.2.2.2.2, ()), (p, (vrun p m i pl most).2.1, (vrun p m i pl most).2.2, ()), ()))
  | 0, i, pl, most, R, h => by
    obtain ⟨z0, z1, ⟨⟩⟩ := z
    obtain ⟨mode, scale, sizes, consts, scales, code⟩ := p
    refine itr_out ?_
    unfold R8_2 Q8_2
    simp only [] at h ⊢
    rw [bif_f (decide_eq_false (by omega))]
    rfl
  | m + 1, i, pl, most, R, h => by
    have e := eOne R (by omega)
    have R1 := stp_rg R (show i < p.2.2.2.2.2.length by omega)
    have ih := fun pl' most' R' => e_run m (i + 1) pl' most' R' (by omega)
    have hn := R.n
    unfold vrun
    generalize stp p pl most i = y at *
    obtain ⟨y0, y1, y2⟩ := y
    obtain ⟨z0, z1, ⟨⟩⟩ := z
    obtain ⟨mode, scale, sizes, consts, scales, code⟩ := p
    simp only [] at h e R1 ih hn ⊢
    by_cases hy : y0 = 0
    · rw [if_neg (show ¬ y0 ≠ 0 by omega)]
      rw [← ih y1 y2 R1]
      refine itr_in ?_
      unfold R8_2 Q8_2
      simp only []
      rw [bif_t (decide_eq_true (by omega)), e]
      simp only [Option.bind_some]
      rw [bif_ne, if_pos hy, wsi (n := (i : Int) + 1) (by omega)]
      rfl
    · rw [if_pos hy]
      simp only []
      rw [if_pos hy]
      refine itr_out ?_
      unfold R8_2 Q8_2
      simp only []
      rw [bif_t (decide_eq_true (by omega)), e]
      simp only [Option.bind_some]
      rw [bif_ne, if_neg hy]
theorem r_run : ∀ (m i : Nat) (pl : Pl) (most : Int), Rg p pl most i → i + m = p.2.2.2.2.2.length →
    itr R9_2 (m + 1) (z, (p.1, p.2.1, p.2.2.1, p.2.2.2.1, p.2.2.2.2.1, p.2.2.2.2.2, ()), (pl.map (·.1), pl.map (·.2), most, ()), (i : Int), ()) =
      some (if (vrun p m i pl most).1 ≠ 0 then .inr ((0, 0, ()), (vrun p m i pl most).1, ()) else .inl (z, (p.1, p.2.1, p.2.2.1, p.2.2.2.1, p.2.2.2.2.1, p.2.2.2.2.2, ()), ((vrun p m i pl most).2.1.map (·.1), (vrun p m i pl most).2.1.map (·.2), (vrun p m i pl most).2.2, ()), ()))
  | 0, i, pl, most, R, h => by
    obtain ⟨z0, z1, ⟨⟩⟩ := z
    obtain ⟨mode, scale, sizes, consts, scales, code⟩ := p
    refine itr_out ?_
    unfold R9_2 Q9_2
    simp only [] at h ⊢
    rw [bif_f (decide_eq_false (by omega))]
    rfl
  | m + 1, i, pl, most, R, h => by
    have e := rOne R (by omega)
    have R1 := stp_rg R (show i < p.2.2.2.2.2.length by omega)
    have ih := fun pl' most' R' => r_run m (i + 1) pl' most' R' (by omega)
    have hn := R.n
    unfold vrun
    generalize stp p pl most i = y at *
    obtain ⟨y0, y1, y2⟩ := y
    obtain ⟨z0, z1, ⟨⟩⟩ := z
    obtain ⟨mode, scale, sizes, consts, scales, code⟩ := p
    simp only [] at h e R1 ih hn ⊢
    by_cases hy : y0 = 0
    · rw [if_neg (show ¬ y0 ≠ 0 by omega)]
      rw [← ih y1 y2 R1]
      refine itr_in ?_
      unfold R9_2 Q9_2
      simp only []
      rw [bif_t (decide_eq_true (by omega)), e]
      simp only [Option.bind_some]
      rw [bif_ne, if_pos hy, wsi (n := (i : Int) + 1) (by omega)]
      rfl
    · rw [if_pos hy]
      simp only []
      rw [if_pos hy]
      refine itr_out ?_
      unfold R9_2 Q9_2
      simp only []
      rw [bif_t (decide_eq_true (by omega)), e]
      simp only [Option.bind_some]
      rw [bif_ne, if_neg hy]
theorem e_fill (zp : Int × Int × List Int × List (Int × Int) × List (List (Int × Int)) × List (Int × Int × Int) × Unit) (n : Nat) (hn : n ≤ 8193) : itrs R8_0 (z, zp, (p, List.replicate n (0, 0), 0, ()), (n : Int), 0, ()) = some (z, zp, (p, List.replicate n (-1, 0), 0, ()), ()) := by
  obtain ⟨z0, z1, ⟨⟩⟩ := z
  obtain ⟨q0, q1, q2, q3, q4, q5, ⟨⟩⟩ := zp
  obtain ⟨mode, scale, sizes, consts, scales, code⟩ := p
  refine itrs_seq (fun j => ((z0, z1, ()), (q0, q1, q2, q3, q4, q5, ()), ((mode, scale, sizes, consts, scales, code), List.replicate j (-1, 0) ++ List.replicate (n - j) (0, 0), 0, ()), (n : Int), (j : Int), ())) n (by simp) (fun j hj => ?_) ?_ (by omega)
  · have hl : (List.replicate j ((-1 : Int), (0 : Int)) ++ List.replicate (n - j) (0, 0)).length = n := by simp; omega
    have hg : (List.replicate j ((-1 : Int), (0 : Int)) ++ List.replicate (n - j) (0, 0))[j]? = some (0, 0) := by
      rw [List.getElem?_append_right (by simp), List.length_replicate, Nat.sub_self, show n - j = (n - (j + 1)) + 1 from by omega, List.replicate_succ]
      rfl
    have hset : (List.replicate j ((-1 : Int), (0 : Int)) ++ List.replicate (n - j) (0, 0)).set j (-1, 0) = List.replicate (j + 1) (-1, 0) ++ List.replicate (n - (j + 1)) (0, 0) := by
      rw [List.set_append_right _ _ (by simp), List.length_replicate, Nat.sub_self, show n - j = (n - (j + 1)) + 1 from by omega, List.replicate_succ, List.set_cons_zero, List.replicate_succ', List.append_assoc]
      rfl
    unfold R8_0 Q8_0
    simp only []
    rw [bif_t (decide_eq_true (show (j : Int) < (n : Int) by omega)), hl, bif_t (show (decide (0 ≤ (j : Int)) && decide ((j : Int) < (n : Int))) = true from by rw [decide_eq_true (show 0 ≤ (j : Int) by omega), decide_eq_true (show (j : Int) < (n : Int) by omega)]; rfl)]
    simp only [Option.bind_some, Int.toNat_natCast]
    rw [hg]
    simp only [Option.bind_some]
    rw [hset, wsi (by omega)]
    rfl
  · unfold R8_0 Q8_0
    simp only []
    rw [bif_f (decide_eq_false (by omega)), Nat.sub_self, List.replicate_zero, List.append_nil]
theorem r_fill (hn : p.2.2.2.2.2.length ≤ 8192) : itrs R9_0 (z, (p.1, p.2.1, p.2.2.1, p.2.2.2.1, p.2.2.2.2.1, p.2.2.2.2.2, ()), ([0], [0], 0, ()), 0, ()) = some (z, (p.1, p.2.1, p.2.2.1, p.2.2.2.1, p.2.2.2.2.1, p.2.2.2.2.2, ()), ((pl0 p.2.2.2.2.2.length).map (·.1), (pl0 p.2.2.2.2.2.length).map (·.2), 0, ()), ()) := by
  obtain ⟨z0, z1, ⟨⟩⟩ := z
  obtain ⟨mode, scale, sizes, consts, scales, code⟩ := p
  simp only [] at hn ⊢
  refine itrs_seq (fun j => ((z0, z1, ()), (mode, scale, sizes, consts, scales, code, ()), (0 :: List.replicate j (-1), 0 :: List.replicate j 0, 0, ()), (j : Int), ())) code.length (by simp) (fun j hj => ?_) ?_ (by omega)
  · unfold R9_0 Q9_0
    simp only []
    rw [bif_t (decide_eq_true (by omega)), bif_t (decide_eq_true (by simp; omega))]
    simp only [Option.bind_some]
    rw [bif_t (decide_eq_true (by simp; omega))]
    simp only [Option.bind_some]
    rw [wsi (by omega), List.replicate_succ', List.replicate_succ']
    rfl
  · unfold R9_0 Q9_0
    simp only []
    rw [bif_f (decide_eq_false (by omega))]
    simp [pl0]
end
/-- What the decoder gives. -/
theorem decans_two {b : List Int} (hb : Bs b) : ∃ p e, decans b = (p, e, ()) ∧ (e = 0 → chk p = 0) ∧ (e = 0 ∨ e = 160) := by
  rcases decans_cases hb with h | ⟨p, h, hc, _⟩
  · exact ⟨_, _, h, (fun e => (by cases e)), .inr rfl⟩
  · exact ⟨_, _, h, fun _ => hc, .inl rfl⟩
theorem eVerify {b : List Int} (hb : Bl b) : N8 (b, ()) = some (vans b) := by
  obtain ⟨p, e, hd, hc, _⟩ := decans_two hb.1
  have e1 := eDecode hb
  unfold vans
  rw [hd] at e1 ⊢
  simp only []
  by_cases he : e = 0
  · have hc := hc he
    have R := Rg.start hc
    have hn := R.n
    have F := e_fill (p := p) (0, 0, ()) (p.1, p.2.1, p.2.2.1, p.2.2.2.1, p.2.2.2.2.1, p.2.2.2.2.2, ()) (p.2.2.2.2.2.length + 1) (by omega)
    have L := itrs_of (e_run (p := p) (0, 0, ()) p.2.2.2.2.2.length 0 (pl0 p.2.2.2.2.2.length) 0 R (by omega)) (by omega)
    have hl := vrun_len (p := p) p.2.2.2.2.2.length 0 (pl0 p.2.2.2.2.2.length) 0 R (by omega)
    rw [if_neg (show ¬ e ≠ 0 by omega)]
    unfold vshape vend
    generalize vrun p p.2.2.2.2.2.length 0 (pl0 p.2.2.2.2.2.length) 0 = y at *
    obtain ⟨y0, y1, y2⟩ := y
    clear R hc hd
    obtain ⟨mode, scale, sizes, consts, scales, code⟩ := p
    simp only [] at F L hn hl ⊢
    unfold N8 M8
    simp only []
    rw [e1]
    simp only [Option.bind_some]
    rw [bif_ne, if_pos he, wsi (n := (code.length : Int) + 1) (by omega), show (code.length : Int) + 1 = ((code.length + 1 : Nat) : Int) from by omega]
    rw [bif_t]
    rotate_left
    · rw [decide_eq_true (show 0 ≤ ((code.length + 1 : Nat) : Int) by omega), decide_eq_true (show Int.toNat ((code.length + 1 : Nat) : Int) * 16 ≤ 140737488355328 by omega), decide_eq_true (show ((code.length + 1 : Nat) : Int) ≤ 9223372036854775807 by omega)]
      simp
    simp only [Option.bind_some, Int.toNat_natCast, List.length_replicate]
    rw [F]
    simp only [Option.bind_some]
    rw [bif_t (show (true && decide (0 < ((List.replicate (code.length + 1) ((-1 : Int), (0 : Int))).length : Int))) = true from by simp)]
    simp only [Option.bind_some, List.replicate_succ, List.getElem?_cons_zero, List.set_cons_zero]
    rw [show ((0 : Int), (0 : Int)) :: List.replicate code.length (-1, 0) = pl0 code.length from rfl]
    rw [show ((0 : Nat) : Int) = 0 from rfl] at L
    rw [L]
    simp only [Option.bind_some]
    by_cases hy : y0 = 0
    · rw [if_neg (show ¬ y0 ≠ 0 by omega), if_neg (show ¬ y0 ≠ 0 by omega)]
      simp only []
      rw [bif_t (show (true && decide ((code.length : Int) < (y1.length : Int))) = true from by rw [decide_eq_true (show (code.length : Int) < (y1.length : Int) by omega)]; rfl)]
      have hlt : code.length < y1.length := by omega
      simp only [Option.bind_some, Int.toNat_natCast]
      rw [List.getElem?_eq_getElem hlt, getD_at hlt]
      simp only [Option.bind_some]
      rw [bif_p, bif_ne]
      split
      · rfl
      · by_cases h1 : y1[code.length].1 = 1
        · rw [if_pos h1, if_neg (show ¬ y1[code.length].1 ≠ 1 by omega)]
        · rw [if_neg h1, if_pos h1]
    · rw [if_pos hy, if_pos hy]
  · rw [if_pos he]
    obtain ⟨mode, scale, sizes, consts, scales, code⟩ := p
    unfold N8 M8
    simp only []
    rw [e1]
    simp only [Option.bind_some]
    rw [bif_ne, if_neg he]
theorem rVerify {b : List Int} (hb : Bl b) : N9 (b, ()) = some (vans b) := by
  obtain ⟨p, e, hd, hc, _⟩ := decans_two hb.1
  have e1 := rDecode hb
  unfold vans
  rw [hd] at e1 ⊢
  simp only []
  by_cases he : e = 0
  · have hc := hc he
    have R := Rg.start hc
    have hn := R.n
    have F := r_fill (p := p) (0, 0, ()) hn
    have L := itrs_of (r_run (p := p) (0, 0, ()) p.2.2.2.2.2.length 0 (pl0 p.2.2.2.2.2.length) 0 R (by omega)) (by omega)
    have hl := vrun_len (p := p) p.2.2.2.2.2.length 0 (pl0 p.2.2.2.2.2.length) 0 R (by omega)
    rw [if_neg (show ¬ e ≠ 0 by omega)]
    unfold vshape vend
    generalize vrun p p.2.2.2.2.2.length 0 (pl0 p.2.2.2.2.2.length) 0 = y at *
    obtain ⟨y0, y1, y2⟩ := y
    clear R hc hd
    obtain ⟨mode, scale, sizes, consts, scales, code⟩ := p
    simp only [] at F L hn hl ⊢
    unfold N9 M9
    simp only []
    rw [e1]
    simp only [Option.bind_some]
    rw [bif_ne, if_pos he, F]
    simp only [Option.bind_some]
    rw [show ((0 : Nat) : Int) = 0 from rfl] at L
    rw [L]
    simp only [Option.bind_some]
    by_cases hy : y0 = 0
    · rw [if_neg (show ¬ y0 ≠ 0 by omega), if_neg (show ¬ y0 ≠ 0 by omega)]
      simp only []
      have hlt : code.length < y1.length := by omega
      rw [List.length_map, List.length_map, bif_t (show (true && decide ((code.length : Int) < (y1.length : Int))) = true from by rw [decide_eq_true (show (code.length : Int) < (y1.length : Int) by omega)]; rfl)]
      simp only [Option.bind_some, Int.toNat_natCast, List.getElem?_map]
      rw [List.getElem?_eq_getElem hlt, getD_at hlt]
      simp only [Option.bind_some, Option.map_some]
      rw [bif_p, bif_ne]
      split
      · rfl
      · by_cases h1 : y1[code.length].1 = 1
        · rw [if_pos h1, if_neg (show ¬ y1[code.length].1 ≠ 1 by omega)]
        · rw [if_neg h1, if_pos h1]
    · rw [if_pos hy, if_pos hy]
  · rw [if_pos he]
    obtain ⟨mode, scale, sizes, consts, scales, code⟩ := p
    unfold N9 M9
    simp only []
    rw [e1]
    simp only [Option.bind_some]
    rw [bif_ne, if_neg he]
end Go.Proofs.Ytigjckjkhnokbaa.E
namespace Go.Proofs.Ytigjckjkhnokbaa.E
open Go
set_option linter.unusedVariables false
set_option linter.unusedSimpArgs false
set_option maxRecDepth 100000
def opc (p : Prg) (i : Nat) : Int := (p.2.2.2.2.2.getD i (0, 0, 0)).1
def skc (p : Prg) (i : Nat) : Nat := (p.2.2.2.2.2.getD i (0, 0, 0)).2.2.toNat
/-- From instruction i one goes on to place j. -/
def Goes (p : Prg) (i j : Nat) : Prop := (opc p i ≠ 15 ∧ j = i + 1) ∨ (15 ≤ opc p i ∧ j = i + 1 + skc p i)
def hgt (p : Prg) (pl : Pl) (i : Nat) : Int := (pl.getD i (-1, 0)).1 - tkn (opc p i) + lyn (opc p i)
/-- An instruction is as it must be, among the places. -/
structure Fine (p : Prg) (pl : Pl) (most : Int) (i : Nat) : Prop where
  h : 0 ≤ (pl.getD i (-1, 0)).1
  t : 0 ≤ tkn (opc p i)
  tk : tkn (opc p i) ≤ (pl.getD i (-1, 0)).1
  hm : hgt p pl i ≤ most
  to : ∀ j, Goes p i j → j < pl.length ∧ (pl.getD j (-1, 0)).1 = hgt p pl i ∧ (pl.getD i (-1, 0)).2 + 1 ≤ (pl.getD j (-1, 0)).2
theorem rch_ok {pl : Pl} {most h s : Int} {i : Nat} (e : (rch pl most i h s).1 = 0) : rch pl most i h s = (0, pl.set i (h, mx (pl.getD i (-1, 0)).2 s), mx most h) ∧ ((pl.getD i (-1, 0)).1 < 0 ∨ (pl.getD i (-1, 0)).1 = h) := by
  unfold rch at *
  split at e
  · cases e
  · rename_i hn
    rw [if_neg hn]
    exact ⟨rfl, by omega⟩
theorem getD_set {γ : Type} {l : List γ} {i j : Nat} {a z : γ} (hi : i < l.length) : (l.set i a).getD j z = if j = i then a else l.getD j z := by
  rw [List.getD_eq_getElem?_getD, List.getD_eq_getElem?_getD, List.getElem?_set]
  by_cases h : i = j
  · subst h
    simp [hi]
  · rw [if_neg h, if_neg (fun e => h e.symm)]
theorem mx_le {a b : Int} : a ≤ mx a b ∧ b ≤ mx a b := by unfold mx; split <;> omega
/-- What stands among the places only grows: heights stay, steps rise. -/
def Grow (pl pl' : Pl) : Prop := pl'.length = pl.length ∧ ∀ j, ((pl.getD j (-1, 0)).1 < 0 ∨ (pl'.getD j (-1, 0)).1 = (pl.getD j (-1, 0)).1) ∧ (pl.getD j (-1, 0)).2 ≤ (pl'.getD j (-1, 0)).2
theorem Grow.refl (pl : Pl) : Grow pl pl := ⟨rfl, fun j => ⟨.inr rfl, Int.le_refl _⟩⟩
theorem Grow.trans {a b c : Pl} (h : Grow a b) (k : Grow b c) (hb : ∀ j, (a.getD j (-1, 0)).1 < 0 ∨ 0 ≤ (a.getD j (-1, 0)).1 := by intro j; omega) : Grow a c := by
  refine ⟨k.1.trans h.1, fun j => ⟨?_, Int.le_trans (h.2 j).2 (k.2 j).2⟩⟩
  rcases (h.2 j).1 with x | x
  · exact .inl x
  · rcases (k.2 j).1 with y | y
    · rw [x] at y; exact .inl y
    · exact .inr (y.trans x)
theorem rch_grow {pl : Pl} {most h s : Int} {i : Nat} (hi : i < pl.length) (e : (rch pl most i h s).1 = 0) :
    Grow pl (rch pl most i h s).2.1 ∧ most ≤ (rch pl most i h s).2.2 ∧ h ≤ (rch pl most i h s).2.2 ∧ ((rch pl most i h s).2.1.getD i (-1, 0)).1 = h ∧ s ≤ ((rch pl most i h s).2.1.getD i (-1, 0)).2 ∧ ∀ j, j ≠ i → (rch pl most i h s).2.1.getD j (-1, 0) = pl.getD j (-1, 0) := by
  obtain ⟨r, hh⟩ := rch_ok e
  rw [r]
  have m := @mx_le most h
  have m2 := @mx_le (pl.getD i (-1, 0)).2 s
  refine ⟨⟨by simp, fun j => ?_⟩, m.1, m.2, ?_, ?_, fun j hj => ?_⟩
  · rw [getD_set hi]
    by_cases hj : j = i
    · subst hj
      rw [if_pos rfl]
      exact ⟨hh.imp id Eq.symm, m2.1⟩
    · rw [if_neg hj]
      exact ⟨.inr rfl, Int.le_refl _⟩
  · rw [getD_set hi, if_pos rfl]
  · rw [getD_set hi, if_pos rfl]; exact m2.2
  · rw [getD_set hi, if_neg hj]
/-- An instruction that was gone through. -/
theorem stp_fine {p : Prg} {pl : Pl} {most : Int} {i : Nat} (R : Rg p pl most i) (hi : i < p.2.2.2.2.2.length) (e : (stp p pl most i).1 = 0) :
    Fine p (stp p pl most i).2.1 (stp p pl most i).2.2 i ∧ Grow pl (stp p pl most i).2.1 ∧ most ≤ (stp p pl most i).2.2 ∧ (∀ j, j ≤ i → (stp p pl most i).2.1.getD j (-1, 0) = pl.getD j (-1, 0)) := by
  have hl := R.len
  have hc := badInstr_in (R.ins _ (List.getElem_mem hi))
  rw [← getD_at hi (z := (0, 0, 0))] at hc
  obtain ⟨⟨o0, o1⟩, ⟨a0, a1⟩, s0, s1⟩ := hc
  have ek : ((skc p i : Nat) : Int) = (p.2.2.2.2.2.getD i (0, 0, 0)).2.2 := by unfold skc; omega
  unfold stp at e ⊢
  by_cases k1 : (pl.getD i (-1, 0)).1 < 0
  · rw [if_pos k1] at e; cases e
  rw [if_neg k1] at e ⊢
  by_cases k2 : tkn (p.2.2.2.2.2.getD i (0, 0, 0)).1 < 0
  · rw [if_pos k2] at e; cases e
  rw [if_neg k2] at e ⊢
  by_cases k3 : (p.2.2.2.2.2.getD i (0, 0, 0)).2.1 ≥ arn p (p.2.2.2.2.2.getD i (0, 0, 0)).1
  · rw [if_pos k3] at e; cases e
  rw [if_neg k3] at e ⊢
  by_cases k4 : (p.2.2.2.2.2.getD i (0, 0, 0)).1 < 15 ∧ (p.2.2.2.2.2.getD i (0, 0, 0)).2.2 ≠ 0
  · rw [if_pos k4] at e; cases e
  rw [if_neg k4] at e ⊢
  by_cases k5 : (pl.getD i (-1, 0)).1 < tkn (p.2.2.2.2.2.getD i (0, 0, 0)).1
  · rw [if_pos k5] at e; cases e
  rw [if_neg k5] at e ⊢
  by_cases k6 : (pl.getD i (-1, 0)).1 - tkn (p.2.2.2.2.2.getD i (0, 0, 0)).1 + lyn (p.2.2.2.2.2.getD i (0, 0, 0)).1 > 1024
  · rw [if_pos k6] at e; cases e
  rw [if_neg k6] at e ⊢
  by_cases k7 : (i : Int) + 1 + (p.2.2.2.2.2.getD i (0, 0, 0)).2.2 > (p.2.2.2.2.2.length : Int)
  · rw [if_pos k7] at e; cases e
  rw [if_neg k7] at e ⊢
  rw [show i + 1 + (p.2.2.2.2.2.getD i (0, 0, 0)).2.2.toNat = i + 1 + skc p i from rfl] at e ⊢
  rw [show (pl.getD i (-1, 0)).1 - tkn (p.2.2.2.2.2.getD i (0, 0, 0)).1 + lyn (p.2.2.2.2.2.getD i (0, 0, 0)).1 = hgt p pl i from rfl] at e k6 ⊢
  rw [show (p.2.2.2.2.2.getD i (0, 0, 0)).1 = opc p i from rfl] at *
  have hj : i + 1 + skc p i < pl.length := by omega
  by_cases k8 : opc p i = 15
  · rw [if_pos k8] at e ⊢
    obtain ⟨g1, g2, g3, g4, g5, g6⟩ := rch_grow hj e
    generalize rch pl most (i + 1 + skc p i) (hgt p pl i) ((pl.getD i (-1, 0)).2 + 1) = y at *
    have gi := g6 i (by omega)
    refine ⟨⟨by rw [gi]; omega, by omega, by rw [gi]; omega, by unfold hgt at *; rw [gi]; omega, fun j hg => ?_⟩, g1, g2, fun j hj' => g6 j (by omega)⟩
    rcases hg with ⟨h1, _⟩ | ⟨_, rfl⟩
    · exact absurd k8 h1
    · refine ⟨by rw [g1.1]; exact hj, ?_, by rw [gi]; exact g5⟩
      rw [g4]
      unfold hgt
      rw [gi]
  · rw [if_neg k8] at e ⊢
    by_cases k9 : (rch pl most (i + 1) (hgt p pl i) ((pl.getD i (-1, 0)).2 + 1)).1 ≠ 0
    · rw [if_pos k9] at e
      exact absurd e k9
    rw [if_neg k9] at e ⊢
    have e1 : (rch pl most (i + 1) (hgt p pl i) ((pl.getD i (-1, 0)).2 + 1)).1 = 0 := by omega
    obtain ⟨g1, g2, g3, g4, g5, g6⟩ := rch_grow (show i + 1 < pl.length by omega) e1
    generalize hy : rch pl most (i + 1) (hgt p pl i) ((pl.getD i (-1, 0)).2 + 1) = y at *
    have gi := g6 i (by omega)
    by_cases k10 : opc p i < 15
    · rw [if_pos k10] at e ⊢
      refine ⟨⟨by rw [gi]; omega, by omega, by rw [gi]; omega, by unfold hgt at *; rw [gi]; omega, fun j hg => ?_⟩, g1, g2, fun j hj' => g6 j (by omega)⟩
      rcases hg with ⟨_, rfl⟩ | ⟨h1, _⟩
      · refine ⟨by rw [g1.1]; omega, ?_, by rw [gi]; exact g5⟩
        rw [g4]
        unfold hgt
        rw [gi]
      · omega
    · rw [if_neg k10] at e ⊢
      have hj2 : i + 1 + skc p i < y.2.1.length := by rw [g1.1]; exact hj
      obtain ⟨f1, f2, f3, f4, f5, f6⟩ := rch_grow hj2 e
      generalize rch y.2.1 y.2.2 (i + 1 + skc p i) (hgt p pl i) ((pl.getD i (-1, 0)).2 + 1) = x at *
      have fi := (f6 i (by omega)).trans gi
      refine ⟨⟨by rw [fi]; omega, by omega, by rw [fi]; omega, by unfold hgt at *; rw [fi]; omega, fun j hg => ?_⟩, g1.trans f1, Int.le_trans g2 f2, fun j hj' => (f6 j (by omega)).trans (g6 j (by omega))⟩
      rcases hg with ⟨_, rfl⟩ | ⟨_, rfl⟩
      · refine ⟨by rw [f1.1, g1.1]; omega, ?_, ?_⟩
        · have q := (f1.2 (i + 1)).1
          rw [g4] at q
          have : hgt p pl i = hgt p x.2.1 i := by unfold hgt; rw [fi]
          rw [← this]
          rcases q with q | q
          · have ly := lyn_in (opc p i)
            unfold hgt at q
            omega
          · exact q
        · rw [fi]
          exact Int.le_trans g5 (f1.2 (i + 1)).2
      · refine ⟨by rw [f1.1]; exact hj2, ?_, by rw [fi]; exact f5⟩
        rw [f4]
        unfold hgt
        rw [fi]
/-- A fine instruction stays so while the places behind it grow. -/
theorem Fine.grow {p : Prg} {pl pl' : Pl} {most most' : Int} {i : Nat} (h : Fine p pl most i) (g : Grow pl pl') (hi : pl'.getD i (-1, 0) = pl.getD i (-1, 0)) (hm : most ≤ most') : Fine p pl' most' i := by
  have e : hgt p pl' i = hgt p pl i := by unfold hgt; rw [hi]
  refine ⟨by rw [hi]; exact h.h, h.t, by rw [hi]; exact h.tk, by rw [e]; exact Int.le_trans h.hm hm, fun j hj => ?_⟩
  obtain ⟨a, b, c⟩ := h.to j hj
  refine ⟨by rw [g.1]; exact a, ?_, by rw [hi]; exact Int.le_trans c (g.2 j).2⟩
  rw [e]
  rcases (g.2 j).1 with x | x
  · exfalso
    rw [b] at x
    have t := h.tk
    have ly := lyn_in (opc p i)
    unfold hgt at x
    omega
  · exact x.trans b
theorem vrun_fine {p : Prg} : ∀ (m i : Nat) (pl : Pl) (most : Int), Rg p pl most i → i + m ≤ p.2.2.2.2.2.length → (vrun p m i pl most).1 = 0 → (∀ k, k < i → Fine p pl most k) →
    Rg p (vrun p m i pl most).2.1 (vrun p m i pl most).2.2 (i + m) ∧ Grow pl (vrun p m i pl most).2.1 ∧ most ≤ (vrun p m i pl most).2.2 ∧ ∀ k, k < i + m → Fine p (vrun p m i pl most).2.1 (vrun p m i pl most).2.2 k
  | 0, i, pl, most, R, h, e, hk => ⟨R, Grow.refl pl, Int.le_refl _, hk⟩
  | m + 1, i, pl, most, R, h, e, hk => by
    unfold vrun at e ⊢
    split at e
    · rename_i hne
      exact absurd e hne
    · rename_i hne
      rw [if_neg hne]
      have e1 : (stp p pl most i).1 = 0 := by omega
      obtain ⟨f, g, hm, hs⟩ := stp_fine R (show i < p.2.2.2.2.2.length by omega) e1
      obtain ⟨r1, r2, r3, r4⟩ := vrun_fine m (i + 1) _ _ (stp_rg R (by omega)) (by omega) e (fun k hki => by
        by_cases hkk : k = i
        · rw [hkk]; exact f
        · exact (hk k (by omega)).grow g (hs k (by omega)) hm)
      rw [show i + (m + 1) = i + 1 + m from by omega]
      exact ⟨r1, g.trans r2, Int.le_trans hm r3, r4⟩
/-- An accepted program. -/
theorem accepted {p : Prg} {S H : Int} (hc : chk p = 0) (h : vshape p = ((S, H), 0, ())) : ∃ pl : Pl, Rg p pl H p.2.2.2.2.2.length ∧ (∀ k, k < p.2.2.2.2.2.length → Fine p pl H k) ∧ pl.getD 0 (-1, 0) = (0, (pl.getD 0 (-1, 0)).2) ∧ pl.getD p.2.2.2.2.2.length (-1, 0) = (1, S) ∧ vrun p p.2.2.2.2.2.length 0 (pl0 p.2.2.2.2.2.length) 0 = (0, pl, H) := by
  unfold vshape vend at h
  have R := Rg.start hc
  by_cases he : (vrun p p.2.2.2.2.2.length 0 (pl0 p.2.2.2.2.2.length) 0).1 = 0
  · obtain ⟨r1, r2, r3, r4⟩ := vrun_fine p.2.2.2.2.2.length 0 (pl0 p.2.2.2.2.2.length) 0 R (by omega) he (fun k hk => by omega)
    generalize vrun p p.2.2.2.2.2.length 0 (pl0 p.2.2.2.2.2.length) 0 = y at *
    obtain ⟨y0, y1, y2⟩ := y
    simp only [Nat.zero_add] at h he r1 r2 r3 r4
    subst he
    rw [if_neg (by simp)] at h
    split at h
    · simp at h
    split at h
    · simp at h
    rename_i k1 k2
    simp only [Prod.mk.injEq, and_true] at h
    obtain ⟨h1, h2⟩ := h
    subst h1 h2
    refine ⟨y1, r1, r4, ?_, ?_, rfl⟩
    · have := (r2.2 0).1
      rw [show (pl0 p.2.2.2.2.2.length).getD 0 (-1, 0) = (0, 0) from rfl] at this
      simp only at this
      have e0 : (y1.getD 0 (-1, 0)).1 = 0 := by omega
      exact Prod.ext e0 rfl
    · have e0 : (y1.getD p.2.2.2.2.2.length (-1, 0)).1 = 1 := by omega
      exact Prod.ext e0 rfl
  · rw [if_pos he] at h
    simp only [Prod.mk.injEq, and_true] at h
    exact absurd h.2 he
/-- Each instruction of an accepted program lies ahead of the end by its steps. -/
theorem steps_left {p : Prg} {pl : Pl} {H : Int} (hl : pl.length = p.2.2.2.2.2.length + 1) (hf : ∀ k, k < p.2.2.2.2.2.length → Fine p pl H k) (hop : ∀ k, k < p.2.2.2.2.2.length → 0 ≤ opc p k) : ∀ (m i : Nat), i + m = p.2.2.2.2.2.length → (pl.getD i (-1, 0)).2 + (if m = 0 then 0 else 1) ≤ (pl.getD p.2.2.2.2.2.length (-1, 0)).2
  | m, i, h => by
    by_cases hm : m = 0
    · subst hm
      rw [show i = p.2.2.2.2.2.length from by omega]
      simp
    · have hg : ∃ j, Goes p i j := by
        by_cases h15 : opc p i = 15
        · exact ⟨_, .inr ⟨by omega, rfl⟩⟩
        · exact ⟨_, .inl ⟨h15, rfl⟩⟩
      obtain ⟨j, hj⟩ := hg
      have hij : i < j := by rcases hj with ⟨_, rfl⟩ | ⟨_, rfl⟩ <;> omega
      obtain ⟨a, b, c⟩ := (hf i (by omega)).to j hj
      have ih := steps_left hl hf hop (p.2.2.2.2.2.length - j) j (by omega)
      rw [if_neg hm]
      split at ih <;> omega
termination_by m => m
decreasing_by omega
end Go.Proofs.Ytigjckjkhnokbaa.E
namespace Go.Proofs.Ytigjckjkhnokbaa.E
open Go
set_option linter.unusedVariables false
set_option maxRecDepth 100000
theorem awake_yes : N7 () = some (true, ()) := by kernel_rfl
def shapeans (p : Prg) : (Int × Int) × Int × Unit := if chk p = 0 then vshape p else ((0, 0), chk p, ())
theorem eShape {p : Prg} (sp : Small p) (wp : Wf p) : N11 (p, ()) = some (shapeans p) := by
  have e0 := eEncode sp wp.los
  unfold encans at e0
  unfold shapeans
  by_cases hc : chk p = 0
  · rw [bif_f (show (chk p != 0) = false from by simpa using hc)] at e0
    have e1 := eVerify (bl_enc hc)
    unfold vans at e1
    rw [dec_enc hc wp, if_neg (show ¬ (0 : Int) ≠ 0 by simp)] at e1
    rw [if_pos hc]
    simp only [] at e1
    generalize vshape p = x at *
    generalize encB p = a at *
    obtain ⟨⟨x0, x1⟩, x2, ⟨⟩⟩ := x
    obtain ⟨p0, p1, p2, p3, p4, p5⟩ := p
    unfold N11 M11
    simp only []
    rw [e0]
    simp only [Option.bind_some, bne_self_eq_false, cond_false]
    rw [e1]
    rfl
  · have hn : (chk p != 0) = true := by simpa using hc
    rw [hn, cond_true] at e0
    rw [if_neg hc]
    generalize chk p = e at *
    obtain ⟨p0, p1, p2, p3, p4, p5⟩ := p
    unfold N11 M11
    simp only []
    rw [e0]
    simp only [Option.bind_some]
    rw [hn]
    rfl
theorem vend_err {n : Nat} {x : Int × Pl × Int} (h : (vend n x).2.1 ≠ 0) : (vend n x).1 = (0, 0) := by
  unfold vend at *
  split
  · rfl
  split
  · rfl
  split
  · rfl
  · rename_i a b c
    rw [if_neg a, if_neg b, if_neg c] at h
    exact absurd rfl h
theorem shapeans_err {p : Prg} (h : (shapeans p).2.1 ≠ 0) : (shapeans p).1 = (0, 0) := by
  unfold shapeans at *
  split
  · rename_i hc
    rw [if_pos hc] at h
    exact vend_err h
  · rfl
theorem shapeans_ok {p : Prg} {S H : Int} (h : shapeans p = ((S, H), 0, ())) : chk p = 0 ∧ vshape p = ((S, H), 0, ()) := by
  unfold shapeans at h
  split at h
  · rename_i hc
    exact ⟨hc, h⟩
  · rename_i hc
    simp only [Prod.mk.injEq, and_true] at h
    exact absurd h.2 hc
end Go.Proofs.Ytigjckjkhnokbaa.E
namespace Go.Proofs.Ytigjckjkhnokbaa.E
open Go
set_option linter.unusedVariables false
set_option linter.unusedSimpArgs false
set_option maxRecDepth 100000
/-- A program with another code. -/
def wc (p : Prg) (c : List (Int × Int × Int)) : Prg := (p.1, p.2.1, p.2.2.1, p.2.2.2.1, p.2.2.2.2.1, c)
theorem getD_app_l {γ : Type} {a b : List γ} {z : γ} {i : Nat} (h : i < a.length) : (a ++ b).getD i z = a.getD i z := by
  rw [List.getD_eq_getElem?_getD, List.getD_eq_getElem?_getD, List.getElem?_append_left h]
theorem getD_app_r {γ : Type} {a b : List γ} {z : γ} {n i : Nat} (h : a.length = n) : (a ++ b).getD (n + i) z = b.getD i z := by
  subst h
  rw [List.getD_eq_getElem?_getD, List.getD_eq_getElem?_getD, List.getElem?_append_right (by omega), Nat.add_sub_cancel_left]
theorem chk_code {p : Prg} {c : List (Int × Int × Int)} (h : chk p = 0) (hl : c.length ≤ 8192) (hb : ∀ x ∈ c, badInstr x = false) : chk (wc p c) = 0 := by
  unfold chk at h ⊢
  unfold wc
  simp only []
  obtain ⟨k, h⟩ := bif_zero (by decide) h
  rw [k]
  obtain ⟨k, h⟩ := bif_zero (by decide) h
  rw [k]
  obtain ⟨k, h⟩ := bif_zero (by decide) h
  rw [k]
  obtain ⟨k, h⟩ := bif_zero (by decide) h
  rw [k]
  obtain ⟨k, h⟩ := bif_zero (by decide) h
  rw [k]
  obtain ⟨k, h⟩ := bif_zero (by decide) h
  rw [k]
  obtain ⟨k, h⟩ := bif_zero (by decide) h
  rw [k]
  obtain ⟨k, h⟩ := bif_zero (by decide) h
  rw [k]
  obtain ⟨k, h⟩ := bif_zero (by decide) h
  rw [k]
  obtain ⟨_, h⟩ := bif_zero (by decide) h
  obtain ⟨k, h⟩ := bif_zero (by decide) h
  rw [k]
  simp only [cond_false]
  rw [bif_f (decide_eq_false (by omega)), bif_f]
  rw [List.any_eq_false]
  intro j hj
  rw [List.mem_range'_1] at hj
  rw [getD_at (show j < c.length by omega), hb _ (List.getElem_mem _)]
  decide
theorem rch_app {pl e : Pl} {most h s : Int} {j : Nat} (hj : j < pl.length) : rch (pl ++ e) most j h s = ((rch pl most j h s).1, (rch pl most j h s).2.1 ++ e, (rch pl most j h s).2.2) := by
  unfold rch
  rw [getD_app_l hj]
  split
  · rfl
  · rw [List.set_append_left _ _ hj]
theorem stp_ok {p : Prg} {pl : Pl} {most : Int} {i : Nat} (e : (stp p pl most i).1 = 0) :
    ¬ (pl.getD i (-1, 0)).1 < 0 ∧ ¬ tkn (opc p i) < 0 ∧ ¬ (p.2.2.2.2.2.getD i (0, 0, 0)).2.1 ≥ arn p (opc p i) ∧ ¬ (opc p i < 15 ∧ (p.2.2.2.2.2.getD i (0, 0, 0)).2.2 ≠ 0) ∧ ¬ (pl.getD i (-1, 0)).1 < tkn (opc p i) ∧ ¬ hgt p pl i > 1024 ∧ ¬ (i : Int) + 1 + (p.2.2.2.2.2.getD i (0, 0, 0)).2.2 > (p.2.2.2.2.2.length : Int) := by
  unfold stp at e
  by_cases k1 : (pl.getD i (-1, 0)).1 < 0
  · rw [if_pos k1] at e; cases e
  rw [if_neg k1] at e
  by_cases k2 : tkn (p.2.2.2.2.2.getD i (0, 0, 0)).1 < 0
  · rw [if_pos k2] at e; cases e
  rw [if_neg k2] at e
  by_cases k3 : (p.2.2.2.2.2.getD i (0, 0, 0)).2.1 ≥ arn p (p.2.2.2.2.2.getD i (0, 0, 0)).1
  · rw [if_pos k3] at e; cases e
  rw [if_neg k3] at e
  by_cases k4 : (p.2.2.2.2.2.getD i (0, 0, 0)).1 < 15 ∧ (p.2.2.2.2.2.getD i (0, 0, 0)).2.2 ≠ 0
  · rw [if_pos k4] at e; cases e
  rw [if_neg k4] at e
  by_cases k5 : (pl.getD i (-1, 0)).1 < tkn (p.2.2.2.2.2.getD i (0, 0, 0)).1
  · rw [if_pos k5] at e; cases e
  rw [if_neg k5] at e
  by_cases k6 : (pl.getD i (-1, 0)).1 - tkn (p.2.2.2.2.2.getD i (0, 0, 0)).1 + lyn (p.2.2.2.2.2.getD i (0, 0, 0)).1 > 1024
  · rw [if_pos k6] at e; cases e
  rw [if_neg k6] at e
  by_cases k7 : (i : Int) + 1 + (p.2.2.2.2.2.getD i (0, 0, 0)).2.2 > (p.2.2.2.2.2.length : Int)
  · rw [if_pos k7] at e; cases e
  exact ⟨k1, k2, k3, k4, k5, k6, k7⟩
/-- The ways that an instruction opens. -/
def ways (pl : Pl) (most : Int) (op h s : Int) (i k : Nat) : Int × Pl × Int :=
  if op = 15 then rch pl most (i + 1 + k) h s
  else if (rch pl most (i + 1) h s).1 ≠ 0 then rch pl most (i + 1) h s
  else if op < 15 then rch pl most (i + 1) h s
  else rch (rch pl most (i + 1) h s).2.1 (rch pl most (i + 1) h s).2.2 (i + 1 + k) h s
theorem stp_ways {p : Prg} {pl : Pl} {most : Int} {i : Nat} (k1 : ¬ (pl.getD i (-1, 0)).1 < 0) (k2 : ¬ tkn (opc p i) < 0) (k3 : ¬ (p.2.2.2.2.2.getD i (0, 0, 0)).2.1 ≥ arn p (opc p i)) (k4 : ¬ (opc p i < 15 ∧ (p.2.2.2.2.2.getD i (0, 0, 0)).2.2 ≠ 0)) (k5 : ¬ (pl.getD i (-1, 0)).1 < tkn (opc p i)) (k6 : ¬ hgt p pl i > 1024) (k7 : ¬ (i : Int) + 1 + (p.2.2.2.2.2.getD i (0, 0, 0)).2.2 > (p.2.2.2.2.2.length : Int)) :
    stp p pl most i = ways pl most (opc p i) (hgt p pl i) ((pl.getD i (-1, 0)).2 + 1) i (skc p i) := by
  unfold hgt opc at *
  unfold stp ways skc
  rw [if_neg k1, if_neg k2, if_neg k3, if_neg k4, if_neg k5, if_neg k6, if_neg k7]
theorem ways_app {pl e : Pl} {most op h s : Int} {i k : Nat} (hj : i + 1 + k < pl.length) : ways (pl ++ e) most op h s i k = ((ways pl most op h s i k).1, (ways pl most op h s i k).2.1 ++ e, (ways pl most op h s i k).2.2) := by
  have l1 := rch_len pl most (i + 1) h s
  unfold ways
  rw [rch_app (show i + 1 + k < pl.length from hj), rch_app (show i + 1 < pl.length by omega)]
  split
  · rfl
  split
  · rfl
  split
  · rfl
  · rw [rch_app (by rw [l1]; exact hj)]
theorem ways_most {pl : Pl} {most op h s : Int} {i k : Nat} (e : (ways pl most op h s i k).1 = 0) : (ways pl most op h s i k).2.2 = mx most h := by
  have two : mx (mx most h) h = mx most h := by unfold mx; (repeat' split) <;> omega
  unfold ways at e ⊢
  split at e
  · rename_i k; rw [if_pos k, (rch_ok e).1]
  rename_i k1
  rw [if_neg k1]
  split at e
  · rename_i k; exact absurd e k
  rename_i k2
  rw [if_neg k2]
  split at e
  · rename_i k; rw [if_pos k, (rch_ok e).1]
  rename_i k3
  rw [if_neg k3, (rch_ok e).1]
  have e1 : (rch pl most (i + 1) h s).1 = 0 := by omega
  rw [(rch_ok e1).1]
  exact two
section
variable {p : Prg} {d : List (Int × Int × Int)} {e : Pl}
theorem opc_app {i : Nat} (hi : i < p.2.2.2.2.2.length) : (p.2.2.2.2.2 ++ d).getD i (0, 0, 0) = p.2.2.2.2.2.getD i (0, 0, 0) := getD_app_l hi
theorem stp_app {pl : Pl} {most : Int} {i : Nat} (R : Rg p pl most i) (hi : i < p.2.2.2.2.2.length) (h : (stp p pl most i).1 = 0) : stp (wc p (p.2.2.2.2.2 ++ d)) (pl ++ e) most i = (0, (stp p pl most i).2.1 ++ e, (stp p pl most i).2.2) := by
  obtain ⟨k1, k2, k3, k4, k5, k6, k7⟩ := stp_ok h
  have hl := R.len
  have hc := badInstr_in (R.ins _ (List.getElem_mem hi))
  rw [← getD_at hi (z := (0, 0, 0))] at hc
  have eo : opc (wc p (p.2.2.2.2.2 ++ d)) i = opc p i := by unfold opc wc; simp only []; rw [opc_app hi]
  have es : skc (wc p (p.2.2.2.2.2 ++ d)) i = skc p i := by unfold skc wc; simp only []; rw [opc_app hi]
  have eg : (wc p (p.2.2.2.2.2 ++ d)).2.2.2.2.2.getD i (0, 0, 0) = p.2.2.2.2.2.getD i (0, 0, 0) := opc_app hi
  have ep : (pl ++ e).getD i (-1, 0) = pl.getD i (-1, 0) := getD_app_l (by omega)
  have eh : hgt (wc p (p.2.2.2.2.2 ++ d)) (pl ++ e) i = hgt p pl i := by unfold hgt; rw [ep, eo]
  have hs : ((skc p i : Nat) : Int) = (p.2.2.2.2.2.getD i (0, 0, 0)).2.2 := by unfold skc; omega
  rw [stp_ways k1 k2 k3 k4 k5 k6 k7] at h ⊢
  rw [stp_ways (by rw [ep]; exact k1) (by rw [eo]; exact k2) (by rw [eg, eo]; exact k3) (by rw [eg, eo]; exact k4) (by rw [ep, eo]; exact k5) (by rw [eh]; exact k6) (by rw [eg]; simp only [wc, List.length_append]; omega), eo, eh, ep, es, ways_app (by omega), h]
theorem vrun_app : ∀ (m i : Nat) (pl : Pl) (most : Int), Rg p pl most i → i + m ≤ p.2.2.2.2.2.length → (vrun p m i pl most).1 = 0 → vrun (wc p (p.2.2.2.2.2 ++ d)) m i (pl ++ e) most = (0, (vrun p m i pl most).2.1 ++ e, (vrun p m i pl most).2.2)
  | 0, i, pl, most, R, hi, h => rfl
  | m + 1, i, pl, most, R, hi, h => by
    unfold vrun at h ⊢
    split at h
    · rename_i k; exact absurd h k
    rename_i k
    have e1 : (stp p pl most i).1 = 0 := by omega
    rw [if_neg k, stp_app R (by omega) e1, if_neg (by simp)]
    exact vrun_app m (i + 1) _ _ (stp_rg R (by omega)) (by omega) h
theorem vrun_go {r : Prg} {m i : Nat} {pl : Pl} {most : Int} (h : (stp r pl most i).1 = 0) : vrun r (m + 1) i pl most = vrun r m (i + 1) (stp r pl most i).2.1 (stp r pl most i).2.2 := by rw [vrun, if_neg (by omega)]
theorem vrun_stop {r : Prg} {m i : Nat} {pl : Pl} {most : Int} (h : (stp r pl most i).1 ≠ 0) : vrun r (m + 1) i pl most = stp r pl most i := by rw [vrun, if_pos h]
theorem vrun_split {r : Prg} : ∀ (m k i : Nat) (pl : Pl) (most : Int), (vrun r m i pl most).1 = 0 → vrun r (m + k) i pl most = vrun r k (i + m) (vrun r m i pl most).2.1 (vrun r m i pl most).2.2
  | 0, k, i, pl, most, h => by rw [Nat.zero_add]; rfl
  | m + 1, k, i, pl, most, h => by
    rw [show m + 1 + k = (m + k) + 1 from by omega]
    by_cases hs : (stp r pl most i).1 = 0
    · rw [vrun_go hs] at h ⊢
      rw [vrun_go hs, vrun_split m k (i + 1) _ _ h, show i + 1 + m = i + (m + 1) from by omega]
    · rw [vrun_stop hs] at h
      exact absurd h hs
theorem vrun_err {r : Prg} : ∀ (m k i : Nat) (pl : Pl) (most : Int), (vrun r m i pl most).1 ≠ 0 → vrun r (m + k) i pl most = vrun r m i pl most
  | 0, k, i, pl, most, h => absurd rfl h
  | m + 1, k, i, pl, most, h => by
    rw [show m + 1 + k = (m + k) + 1 from by omega]
    unfold vrun at h ⊢
    split at h
    · rename_i x; rw [if_pos x, if_pos x]
    · rename_i x
      rw [if_neg x, if_neg x, vrun_err m k (i + 1) _ _ h]
end
/-! ### the second one, upon the first one's pile -/
def shf (S : Int) (x : Int × Int) : Int × Int := if x.1 < 0 then (-1, 0) else (x.1 + 1, x.2 + S)
def Zer (pl : Pl) : Prop := ∀ x ∈ pl, (x.1 < 0 → x = (-1, 0)) ∧ 0 ≤ x.2
theorem getD_map {pl : Pl} {S : Int} {j : Nat} (hj : j < pl.length) : (pl.map (shf S)).getD j (-1, 0) = shf S (pl.getD j (-1, 0)) := by
  rw [getD_at (show j < (pl.map (shf S)).length by simpa using hj), getD_at hj, List.getElem_map]
theorem rch_zer {pl : Pl} {m h s : Int} {j : Nat} (hz : Zer pl) (h0 : 0 ≤ h) (s0 : 0 ≤ s) : Zer (rch pl m j h s).2.1 := by
  unfold rch
  split
  · exact hz
  · intro x hx
    rcases mem_set hx with hx | rfl
    · exact hz x hx
    · refine ⟨fun h => ?_, ?_⟩
      · simp only at h; omega
      · have := @mx_le (pl.getD j (-1, 0)).2 s
        simp only
        omega
section
variable {A e : Pl} {n : Nat} {H S : Int} (hA : A.length = n) (hS : 0 ≤ S)
include hA hS
theorem rch_shift {pl : Pl} {m h s : Int} {j : Nat} (hj : j < pl.length) (hz : Zer pl) (h0 : 0 ≤ h) (s0 : 0 ≤ s) :
    rch (A ++ (pl.map (shf S) ++ e)) (mx H (m + 1)) (n + j) (h + 1) (s + S) = ((rch pl m j h s).1, A ++ ((rch pl m j h s).2.1.map (shf S) ++ e), mx H ((rch pl m j h s).2.2 + 1)) := by
  have hm : j < (pl.map (shf S)).length := by simpa using hj
  have g : (A ++ (pl.map (shf S) ++ e)).getD (n + j) (-1, 0) = shf S (pl.getD j (-1, 0)) := by
    rw [getD_app_r hA, getD_app_l hm, getD_map hj]
  have zz := hz (pl.getD j (-1, 0)) (by rw [getD_at hj]; exact List.getElem_mem hj)
  unfold rch
  rw [g]
  generalize pl.getD j (-1, 0) = x at *
  obtain ⟨x0, x1⟩ := x
  simp only at zz
  have set : ∀ a : Int × Int, (A ++ (pl.map (shf S) ++ e)).set (n + j) a = A ++ ((pl.map (shf S)).set j a ++ e) := fun a => by
    rw [List.set_append_right _ _ (by omega), List.set_append_left _ _ (by rw [hA, Nat.add_sub_cancel_left]; exact hm), hA, Nat.add_sub_cancel_left]
  have mm : mx (mx H (m + 1)) (h + 1) = mx H (mx m h + 1) := by unfold mx; (repeat' split) <;> omega
  by_cases hx : x0 < 0
  · have := zz.1 hx
    simp only [Prod.mk.injEq] at this
    obtain ⟨rfl, rfl⟩ := this
    rw [show shf S (-1, 0) = (-1, 0) from rfl, if_neg (by simp), if_neg (by simp), set, mm, List.map_set]
    rw [show shf S (h, mx 0 s) = (h + 1, mx 0 (s + S)) from by
      unfold shf mx
      rw [if_neg (by simp only; omega)]
      simp only [Prod.mk.injEq, true_and]
      (repeat' split) <;> omega]
  · rw [show shf S (x0, x1) = (x0 + 1, x1 + S) from by unfold shf; rw [if_neg hx]]
    simp only []
    by_cases hh : x0 = h
    · rw [if_neg (by omega), if_neg (by omega), set, mm, List.map_set]
      rw [show shf S (h, mx x1 s) = (h + 1, mx (x1 + S) (s + S)) from by
        unfold shf mx
        rw [if_neg (by simp only; omega)]
        simp only [Prod.mk.injEq, true_and]
        (repeat' split) <;> omega]
    · rw [if_pos (by omega), if_pos (by omega)]
theorem ways_shift {pl : Pl} {m op h s : Int} {i k : Nat} (hj : i + 1 + k < pl.length) (hz : Zer pl) (h0 : 0 ≤ h) (s0 : 0 ≤ s) :
    ways (A ++ (pl.map (shf S) ++ e)) (mx H (m + 1)) op (h + 1) (s + S) (n + i) k = ((ways pl m op h s i k).1, A ++ ((ways pl m op h s i k).2.1.map (shf S) ++ e), mx H ((ways pl m op h s i k).2.2 + 1)) ∧ Zer (ways pl m op h s i k).2.1 := by
  have l1 := rch_len pl m (i + 1) h s
  have z1 := rch_zer (m := m) (j := i + 1) hz h0 s0
  have r1 := rch_shift (e := e) (H := H) (m := m) hA hS (show i + 1 < pl.length by omega) hz h0 s0
  have r2 := rch_shift (e := e) (H := H) (m := m) hA hS (show i + 1 + k < pl.length from hj) hz h0 s0
  unfold ways
  rw [show n + i + 1 = n + (i + 1) from by omega, show n + (i + 1) + k = n + (i + 1 + k) from by omega, r1, r2]
  split
  · exact ⟨rfl, rch_zer hz h0 s0⟩
  split
  · exact ⟨rfl, z1⟩
  split
  · exact ⟨rfl, z1⟩
  · rw [rch_shift hA hS (by rw [l1]; exact hj) z1 h0 s0]
    exact ⟨rfl, rch_zer z1 h0 s0⟩
end
section
variable {p q : Prg} {d : List (Int × Int × Int)} {A e : Pl} {H S : Int} (hA : A.length = p.2.2.2.2.2.length) (hS : 0 ≤ S) (ha : ∀ op, arn q op = arn p op)
include hA hS ha
theorem stp_shift {pl : Pl} {m : Int} {i : Nat} (R : Rg q pl m i) (hz : Zer pl) (hi : i < q.2.2.2.2.2.length) (h : (stp q pl m i).1 = 0) :
    (if hgt q pl i = 1024 then (stp (wc p (p.2.2.2.2.2 ++ (q.2.2.2.2.2 ++ d))) (A ++ (pl.map (shf S) ++ e)) (mx H (m + 1)) (p.2.2.2.2.2.length + i)).1 = 171 ∧ (stp q pl m i).2.2 = 1024
    else stp (wc p (p.2.2.2.2.2 ++ (q.2.2.2.2.2 ++ d))) (A ++ (pl.map (shf S) ++ e)) (mx H (m + 1)) (p.2.2.2.2.2.length + i) = (0, A ++ ((stp q pl m i).2.1.map (shf S) ++ e), mx H ((stp q pl m i).2.2 + 1)) ∧ (m ≤ 1023 → (stp q pl m i).2.2 ≤ 1023)) ∧ Zer (stp q pl m i).2.1 := by
  obtain ⟨k1, k2, k3, k4, k5, k6, k7⟩ := stp_ok h
  have hl := R.len
  have hc := badInstr_in (R.ins _ (List.getElem_mem hi))
  rw [← getD_at hi (z := (0, 0, 0))] at hc
  have hip : i < pl.length := by omega
  have eg : (wc p (p.2.2.2.2.2 ++ (q.2.2.2.2.2 ++ d))).2.2.2.2.2.getD (p.2.2.2.2.2.length + i) (0, 0, 0) = q.2.2.2.2.2.getD i (0, 0, 0) := by
    unfold wc
    simp only []
    rw [getD_app_r rfl, getD_app_l hi]
  have eo : opc (wc p (p.2.2.2.2.2 ++ (q.2.2.2.2.2 ++ d))) (p.2.2.2.2.2.length + i) = opc q i := by unfold opc; rw [eg]
  have es : skc (wc p (p.2.2.2.2.2 ++ (q.2.2.2.2.2 ++ d))) (p.2.2.2.2.2.length + i) = skc q i := by unfold skc; rw [eg]
  have ep : (A ++ (pl.map (shf S) ++ e)).getD (p.2.2.2.2.2.length + i) (-1, 0) = ((pl.getD i (-1, 0)).1 + 1, (pl.getD i (-1, 0)).2 + S) := by
    rw [getD_app_r hA, getD_app_l (by simpa using hip), getD_map hip]
    unfold shf
    rw [if_neg k1]
  have eh : hgt (wc p (p.2.2.2.2.2 ++ (q.2.2.2.2.2 ++ d))) (A ++ (pl.map (shf S) ++ e)) (p.2.2.2.2.2.length + i) = hgt q pl i + 1 := by
    unfold hgt
    rw [ep, eo]
    simp only
    omega
  have hs : ((skc q i : Nat) : Int) = (q.2.2.2.2.2.getD i (0, 0, 0)).2.2 := by unfold skc; omega
  have ly := lyn_in (opc q i)
  have h0 : 0 ≤ hgt q pl i := by unfold hgt; omega
  have s0 : 0 ≤ (pl.getD i (-1, 0)).2 + 1 := by
    rw [getD_at hip]
    have := (R.hs _ (List.getElem_mem hip)).2
    omega
  have hM := R.m
  have hw := stp_ways k1 k2 k3 k4 k5 k6 k7 (most := m)
  have wm := h
  rw [hw] at wm
  have wm := ways_most wm
  obtain ⟨sh, zz⟩ := ways_shift (A := A) (e := e) (H := H) (m := m) (op := opc q i) hA hS (show i + 1 + skc q i < pl.length by omega) hz h0 s0
  rw [← hw] at sh zz wm
  rw [h] at sh
  refine ⟨?_, zz⟩
  by_cases hb : hgt q pl i = 1024
  · rw [if_pos hb]
    refine ⟨?_, by rw [wm, hb]; unfold mx; split <;> omega⟩
    unfold stp
    rw [ep, eg]
    simp only []
    rw [show (q.2.2.2.2.2.getD i (0, 0, 0)).1 = opc q i from rfl]
    rw [if_neg (by omega), if_neg k2, if_neg (by rw [show arn (wc p (p.2.2.2.2.2 ++ (q.2.2.2.2.2 ++ d))) (opc q i) = arn p (opc q i) from rfl, ← ha]; exact k3), if_neg k4, if_neg (by omega), if_pos (by unfold hgt at hb; omega)]
  · rw [if_neg hb]
    refine ⟨?_, fun hm => by rw [wm]; unfold mx; split <;> omega⟩
    rw [stp_ways (by rw [ep]; simp only; omega) (by rw [eo]; exact k2) (by rw [eg, eo, show arn (wc p (p.2.2.2.2.2 ++ (q.2.2.2.2.2 ++ d))) (opc q i) = arn p (opc q i) from rfl, ← ha]; exact k3) (by rw [eg, eo]; exact k4) (by rw [ep, eo]; simp only; omega) (by rw [eh]; omega) (by rw [eg]; simp only [wc, List.length_append]; omega), eo, eh, ep, es]
    rw [show (pl.getD i (-1, 0)).2 + S + 1 = (pl.getD i (-1, 0)).2 + 1 + S from by omega]
    exact sh
theorem vrun_shift : ∀ (m i : Nat) (pl : Pl) (most : Int), Rg q pl most i → Zer pl → i + m ≤ q.2.2.2.2.2.length → (vrun q m i pl most).1 = 0 → most ≤ 1023 →
    ((vrun (wc p (p.2.2.2.2.2 ++ (q.2.2.2.2.2 ++ d))) m (p.2.2.2.2.2.length + i) (A ++ (pl.map (shf S) ++ e)) (mx H (most + 1))).1 = 171 ∧ 1024 ≤ (vrun q m i pl most).2.2) ∨ (vrun (wc p (p.2.2.2.2.2 ++ (q.2.2.2.2.2 ++ d))) m (p.2.2.2.2.2.length + i) (A ++ (pl.map (shf S) ++ e)) (mx H (most + 1)) = (0, A ++ ((vrun q m i pl most).2.1.map (shf S) ++ e), mx H ((vrun q m i pl most).2.2 + 1)) ∧ (vrun q m i pl most).2.2 ≤ 1023)
  | 0, i, pl, most, R, hz, hi, h, hm => .inr ⟨rfl, hm⟩
  | m + 1, i, pl, most, R, hz, hi, h, hm => by
    unfold vrun at h ⊢
    split at h
    · rename_i k; exact absurd h k
    rename_i k
    have e1 : (stp q pl most i).1 = 0 := by omega
    have R1 := stp_rg R (show i < q.2.2.2.2.2.length by omega)
    obtain ⟨sh, zz⟩ := stp_shift (d := d) (e := e) (H := H) hA hS ha R hz (by omega) e1
    rw [if_neg k]
    by_cases hb : hgt q pl i = 1024
    · rw [if_pos hb] at sh
      refine .inl ⟨?_, ?_⟩
      · rw [if_pos (by rw [sh.1]; decide)]
        exact sh.1
      · -- the greatest height only grows
        have mono : ∀ (m i : Nat) (pl : Pl) (most : Int), Rg q pl most i → i + m ≤ q.2.2.2.2.2.length → (vrun q m i pl most).1 = 0 → most ≤ (vrun q m i pl most).2.2 := by
          intro m
          induction m with
          | zero => intro i pl most _ _ _; exact Int.le_refl _
          | succ m ih =>
            intro i pl most R hi h
            unfold vrun at h ⊢
            split at h
            · rename_i k; exact absurd h k
            rename_i k
            rw [if_neg k]
            exact Int.le_trans (stp_fine R (by omega) (by omega)).2.2.1 (ih (i + 1) _ _ (stp_rg R (by omega)) (by omega) h)
        have := mono m (i + 1) _ _ R1 (by omega) h
        omega
    · rw [if_neg hb] at sh
      obtain ⟨s1, s2⟩ := sh
      rw [s1, if_neg (by simp)]
      exact vrun_shift m (i + 1) _ _ R1 zz (by omega) h (s2 hm)
end
end Go.Proofs.Ytigjckjkhnokbaa.E
namespace Go.Proofs.Ytigjckjkhnokbaa.E
open Go
set_option linter.unusedVariables false
set_option linter.unusedSimpArgs false
set_option maxRecDepth 100000
/-- The last instruction's height is within the greatest one. -/
theorem end_le {p : Prg} {pl : Pl} {H : Int} (hl : pl.length = p.2.2.2.2.2.length + 1) (hf : ∀ k, k < p.2.2.2.2.2.length → Fine p pl H k) : ∀ (m i : Nat), i + m = p.2.2.2.2.2.length → m ≠ 0 → (pl.getD p.2.2.2.2.2.length (-1, 0)).1 ≤ H
  | m, i, h, hm => by
    have hg : ∃ j, Goes p i j ∧ i < j := by
      by_cases h15 : opc p i = 15
      · exact ⟨_, .inr ⟨by omega, rfl⟩, by omega⟩
      · exact ⟨_, .inl ⟨h15, rfl⟩, by omega⟩
    obtain ⟨j, hj, hij⟩ := hg
    have f := hf i (by omega)
    obtain ⟨a, b, c⟩ := f.to j hj
    by_cases e : j = p.2.2.2.2.2.length
    · rw [e] at b
      rw [b]
      exact f.hm
    · exact end_le hl hf (p.2.2.2.2.2.length - j) j (by omega) (by omega)
termination_by m => m
decreasing_by omega
theorem pl0_zer (n : Nat) : Zer (pl0 n) := by
  intro x hx
  unfold pl0 at hx
  rcases List.mem_cons.1 hx with rfl | hx
  · simp
  · rw [(List.mem_replicate.1 hx).2]
    simp
theorem pl0_app (a b : Nat) : pl0 (a + b) = pl0 a ++ List.replicate b (-1, 0) := by
  unfold pl0
  rw [List.cons_append, List.replicate_append_replicate]
theorem shf_pl0 (S : Int) (n : Nat) : (pl0 n).map (shf S) = (1, S) :: List.replicate n (-1, 0) := by
  unfold pl0
  rw [List.map_cons, List.map_replicate]
  simp [shf]
structure Join (p : Prg) (c : List (Int × Int × Int)) (S T H K : Int) : Prop where
  cp : chk p = 0
  cq : chk (wc p c) = 0
  vp : vshape p = ((S, H), 0, ())
  vq : vshape (wc p c) = ((T, K), 0, ())
theorem Join.run {p : Prg} {c : List (Int × Int × Int)} {S T H K : Int} (h : Join p c S T H K) (d : List (Int × Int × Int)) :
    1 ≤ H ∧ 0 ≤ S ∧ 0 ≤ T ∧ 1 ≤ K ∧ H ≤ 1024 ∧ (((vrun (wc p (p.2.2.2.2.2 ++ (c ++ d))) (p.2.2.2.2.2.length + c.length) 0 (pl0 (p.2.2.2.2.2.length + c.length + d.length)) 0).1 = 171 ∧ 1024 ≤ K) ∨
      ∃ A Q : Pl, A.length = p.2.2.2.2.2.length ∧ Q.length = c.length + 1 ∧ Q.getD c.length (-1, 0) = (1, T) ∧ vrun (wc p (p.2.2.2.2.2 ++ (c ++ d))) (p.2.2.2.2.2.length + c.length) 0 (pl0 (p.2.2.2.2.2.length + c.length + d.length)) 0 = (0, A ++ (Q.map (shf S) ++ List.replicate d.length (-1, 0)), mx H (K + 1)) ∧ K ≤ 1023) := by
  obtain ⟨cp, cq, vp, vq⟩ := h
  obtain ⟨P, RP, FP, zP, eP, uP⟩ := accepted cp vp
  obtain ⟨Q, RQ, FQ, zQ, eQ, uQ⟩ := accepted cq vq
  have lc : (wc p c).2.2.2.2.2.length = c.length := rfl
  have lP := RP.len
  have lQ := RQ.len
  rw [lc] at lQ eQ uQ
  have nP : p.2.2.2.2.2.length ≠ 0 := fun e => by
    rw [e, zP] at eP
    simp at eP
  have nQ : c.length ≠ 0 := fun e => by
    rw [e, zQ] at eQ
    simp at eQ
  have hH : 1 ≤ H := by
    have := end_le lP FP p.2.2.2.2.2.length 0 (by omega) nP
    rw [eP] at this
    exact this
  have hK : 1 ≤ K := by
    have := end_le RQ.len FQ c.length 0 (by rw [lc]; omega) nQ
    rw [lc, eQ] at this
    exact this
  have hS : 0 ≤ S := by
    have := (RP.hs P[p.2.2.2.2.2.length] (List.getElem_mem (by omega))).2
    rw [← getD_at (show p.2.2.2.2.2.length < P.length by omega) (z := (-1, 0)), eP] at this
    exact this.1
  have hT : 0 ≤ T := by
    have := (RQ.hs Q[c.length] (List.getElem_mem (by omega))).2
    rw [← getD_at (show c.length < Q.length by omega) (z := (-1, 0)), eQ] at this
    exact this.1
  refine ⟨hH, hS, hT, hK, RP.m.2, ?_⟩
  have cut : P = P.take p.2.2.2.2.2.length ++ [(1, S)] := by
    have hx : P[p.2.2.2.2.2.length] = (1, S) := by rw [← getD_at (show p.2.2.2.2.2.length < P.length by omega) (z := (-1, 0)), eP]
    rw [← hx, ← List.take_succ_eq_append_getElem (by omega), List.take_of_length_le (by omega)]
  have hA : (P.take p.2.2.2.2.2.length).length = p.2.2.2.2.2.length := by rw [List.length_take]; omega
  generalize P.take p.2.2.2.2.2.length = A at *
  have first : vrun (wc p (p.2.2.2.2.2 ++ (c ++ d))) p.2.2.2.2.2.length 0 (pl0 (p.2.2.2.2.2.length + c.length + d.length)) 0 = (0, P ++ List.replicate (c.length + d.length) (-1, 0), H) := by
    rw [show p.2.2.2.2.2.length + c.length + d.length = p.2.2.2.2.2.length + (c.length + d.length) from by omega, pl0_app]
    have := vrun_app (d := c ++ d) (e := List.replicate (c.length + d.length) (-1, 0)) p.2.2.2.2.2.length 0 (pl0 p.2.2.2.2.2.length) 0 (Rg.start cp) (by omega) (by rw [uP])
    rw [uP] at this
    exact this
  have turn : P ++ List.replicate (c.length + d.length) (-1, 0) = A ++ ((pl0 c.length).map (shf S) ++ List.replicate d.length (-1, 0)) := by
    rw [cut, shf_pl0, List.append_assoc, List.cons_append, List.cons_append, List.nil_append, List.replicate_append_replicate]
  have m0 : mx H (0 + 1) = H := by unfold mx; split <;> omega
  have sh := vrun_shift (p := p) (q := wc p c) (d := d) (A := A) (e := List.replicate d.length (-1, 0)) (H := H) hA hS (fun op => rfl) c.length 0 (pl0 c.length) 0 (Rg.start cq) (pl0_zer _) (by rw [lc]; omega) (by rw [uQ]) (by omega)
  rw [uQ, m0, ← turn, Nat.add_zero] at sh
  simp only [] at sh
  rw [vrun_split p.2.2.2.2.2.length c.length 0 _ _ (by rw [first]), first, Nat.zero_add]
  rcases sh with ⟨s1, s2⟩ | ⟨s1, s2⟩
  · exact .inl ⟨s1, s2⟩
  · exact .inr ⟨A, Q, hA, lQ, eQ, s1, s2⟩
/-- Without an instruction that takes two: refused. -/
theorem Join.none {p : Prg} {c : List (Int × Int × Int)} {S T H K : Int} (h : Join p c S T H K) : vshape (wc p (p.2.2.2.2.2 ++ c)) = ((0, 0), 171, ()) := by
  obtain ⟨hH, hS, hT, hK, hH2, r⟩ := h.run []
  rw [List.append_nil] at r
  have ln : (wc p (p.2.2.2.2.2 ++ c)).2.2.2.2.2.length = p.2.2.2.2.2.length + c.length := by simp [wc]
  unfold vshape
  rw [ln]
  rcases r with ⟨r1, r2⟩ | ⟨A, Q, hA, lQ, eQ, r1, r2⟩
  · unfold vend
    have r1 : (vrun (wc p (p.2.2.2.2.2 ++ c)) (p.2.2.2.2.2.length + c.length) 0 (pl0 (p.2.2.2.2.2.length + c.length)) 0).1 = 171 := r1
    rw [r1]
    rfl
  · have r1 : vrun (wc p (p.2.2.2.2.2 ++ c)) (p.2.2.2.2.2.length + c.length) 0 (pl0 (p.2.2.2.2.2.length + c.length)) 0 = _ := r1
    rw [r1]
    unfold vend
    simp only []
    have g : (A ++ (Q.map (shf S) ++ List.replicate ([] : List (Int × Int × Int)).length (-1, 0))).getD (p.2.2.2.2.2.length + c.length) (-1, 0) = (2, T + S) := by
      rw [getD_app_r hA, getD_app_l (by simp; omega), getD_map (by omega), eQ]
      simp [shf]
    rw [g]
    rfl
/-- With one: the steps are added up, and one; or too high a pile. -/
theorem Join.one {p : Prg} {c : List (Int × Int × Int)} {S T H K o : Int} (h : Join p c S T H K) (ho : 5 ≤ o ∧ o ≤ 9) :
    vshape (wc p (p.2.2.2.2.2 ++ (c ++ [(o, 0, 0)]))) = if mx H (K + 1) > 1024 then ((0, 0), 171, ()) else ((S + T + 1, mx H (K + 1)), 0, ()) := by
  obtain ⟨hH, hS, hT, hK, hH2, r⟩ := h.run [(o, 0, 0)]
  have ln : (wc p (p.2.2.2.2.2 ++ (c ++ [(o, 0, 0)]))).2.2.2.2.2.length = p.2.2.2.2.2.length + c.length + 1 := by simp [wc]; omega
  unfold vshape
  rw [ln]
  have r := r
  rw [show ([(o, 0, 0)] : List (Int × Int × Int)).length = 1 from rfl] at r
  rcases r with ⟨r1, r2⟩ | ⟨A, Q, hA, lQ, eQ, r1, r2⟩
  · rw [vrun_err _ 1 0 _ _ (by rw [r1]; decide)]
    unfold vend
    rw [r1, if_pos (by decide), if_pos (by unfold mx; split <;> omega)]
  · rw [vrun_split _ 1 0 _ _ (by rw [r1]), r1, Nat.zero_add]
    simp only []
    have eg : (wc p (p.2.2.2.2.2 ++ (c ++ [(o, 0, 0)]))).2.2.2.2.2.getD (p.2.2.2.2.2.length + c.length) (0, 0, 0) = (o, 0, 0) := by
      unfold wc
      simp only []
      rw [getD_app_r rfl, show c.length = c.length + 0 from rfl, getD_app_r rfl]
      rfl
    have ep : (A ++ (Q.map (shf S) ++ List.replicate 1 (-1, 0))).getD (p.2.2.2.2.2.length + c.length) (-1, 0) = (2, T + S) := by
      rw [getD_app_r hA, getD_app_l (by simp; omega), getD_map (by omega), eQ]
      simp [shf]
    have en : (A ++ (Q.map (shf S) ++ List.replicate 1 (-1, 0))).getD (p.2.2.2.2.2.length + c.length + 1) (-1, 0) = (-1, 0) := by
      rw [show p.2.2.2.2.2.length + c.length + 1 = p.2.2.2.2.2.length + (c.length + 1) from by omega, getD_app_r hA, show c.length + 1 = (c.length + 1) + 0 from rfl, getD_app_r (by simp; omega)]
      rfl
    have hlen : (A ++ (Q.map (shf S) ++ List.replicate 1 ((-1 : Int), (0 : Int)))).length = p.2.2.2.2.2.length + c.length + 2 := by simp; omega
    generalize A ++ (Q.map (shf S) ++ List.replicate 1 ((-1 : Int), (0 : Int))) = X at *
    have t1 : tkn o = 2 := by unfold tkn; rw [if_neg (by omega), if_pos (by omega)]
    have t2 : lyn o = 1 := by unfold lyn; rw [if_neg (by omega)]
    have t3 : arn (wc p (p.2.2.2.2.2 ++ (c ++ [(o, 0, 0)]))) o = 1 := by unfold arn; rw [if_neg (by omega), if_neg (by omega), if_neg (by omega), if_neg (by omega)]
    have ms : mx (mx H (K + 1)) 1 = mx H (K + 1) := by unfold mx; (repeat' split) <;> omega
    have hst : stp (wc p (p.2.2.2.2.2 ++ (c ++ [(o, 0, 0)]))) X (mx H (K + 1)) (p.2.2.2.2.2.length + c.length) = (0, X.set (p.2.2.2.2.2.length + c.length + 1) (1, T + S + 1), mx H (K + 1)) := by
      rw [stp_ways (by rw [ep]; simp) (by unfold opc; rw [eg]; simp only; omega) (by unfold opc; rw [eg]; simp only; omega) (by rw [eg]; simp) (by unfold opc; rw [eg, ep]; simp only; omega) (by unfold hgt opc; rw [eg, ep]; simp only; omega) (by rw [eg, ln]; simp only; omega)]
      unfold ways hgt opc
      rw [eg, ep]
      simp only []
      rw [t1, t2, if_neg (by omega)]
      have hr : rch X (mx H (K + 1)) (p.2.2.2.2.2.length + c.length + 1) (2 - 2 + 1) (T + S + 1) = (0, X.set (p.2.2.2.2.2.length + c.length + 1) (1, T + S + 1), mx H (K + 1)) := by
        unfold rch
        rw [en, if_neg (by simp)]
        rw [show (2 : Int) - 2 + 1 = 1 from rfl, ms]
        rw [show mx ((-1 : Int), (0 : Int)).2 (T + S + 1) = T + S + 1 from by unfold mx; rw [if_pos (by simp only; omega)]]
      rw [hr, if_neg (by simp), if_pos (by omega)]
    rw [vrun_go (by rw [hst]), hst]
    unfold vrun vend
    simp only []
    rw [getD_set (by omega), if_pos rfl, if_neg (by simp), if_neg (by simp), if_neg (by simp)]
    rw [if_neg (by unfold mx; split <;> omega), show T + S + 1 = S + T + 1 from by omega]
end Go.Proofs.Ytigjckjkhnokbaa.E
namespace Go.Proofs.Ytigjckjkhnokbaa.E
open Go
set_option linter.unusedVariables false
set_option linter.unusedSimpArgs false
set_option maxRecDepth 100000
theorem wf_wc {p : Prg} (h : Wf p) (c : List (Int × Int × Int)) : Wf (wc p c) := ⟨h.a, h.b, h.c⟩
theorem small_wc {p : Prg} (h : Small p) {c : List (Int × Int × Int)} (hc : c.length ≤ 140737488355328) : Small (wc p c) := ⟨h.a, h.b, h.c, hc, h.e⟩
theorem pureVerifyJoins : PVerifyJoins := by
  intro p q op ⟨_, _, h1, h2, h3, h4, _⟩ ⟨_, _, _, _, _, hq4, _⟩ _
  obtain ⟨sp, wp⟩ := prg_wf h1 h2 h3 h4
  rw [by_instr] at hq4
  have lq : q.2.2.2.2.2.length ≤ 140737488355328 := by omega
  have e1 := eShape sp wp
  have e2 := eShape (small_wc sp lq) (wf_wc wp q.2.2.2.2.2)
  by_cases ok1 : (shapeans p).2.1 = 0
  rotate_left
  · generalize shapeans p = x at *
    generalize shapeans (wc p q.2.2.2.2.2) = y at *
    obtain ⟨⟨x0, x1⟩, x2, ⟨⟩⟩ := x
    obtain ⟨⟨y0, y1⟩, y2, ⟨⟩⟩ := y
    obtain ⟨p0, p1, p2, p3, p4, p5⟩ := p
    obtain ⟨q0, q1, q2, q3, q4, q5⟩ := q
    unfold wc at e2
    unfold N6 M6
    simp only [] at e2 ok1 ⊢
    rw [awake_yes]
    simp only [Option.bind_some, Bool.not_true, cond_false]
    rw [e1]
    simp only [Option.bind_some]
    rw [e2]
    simp only [Option.bind_some]
    rw [bif_t (show (x2 != 0) = true from by simpa using ok1)]
  by_cases ok2 : (shapeans (wc p q.2.2.2.2.2)).2.1 = 0
  rotate_left
  · generalize shapeans p = x at *
    generalize shapeans (wc p q.2.2.2.2.2) = y at *
    obtain ⟨⟨x0, x1⟩, x2, ⟨⟩⟩ := x
    obtain ⟨⟨y0, y1⟩, y2, ⟨⟩⟩ := y
    obtain ⟨p0, p1, p2, p3, p4, p5⟩ := p
    obtain ⟨q0, q1, q2, q3, q4, q5⟩ := q
    unfold wc at e2
    unfold N6 M6
    simp only [] at e2 ok1 ok2 ⊢
    subst ok1
    rw [awake_yes]
    simp only [Option.bind_some, Bool.not_true, cond_false]
    rw [e1]
    simp only [Option.bind_some]
    rw [e2]
    simp only [Option.bind_some, bne_self_eq_false, cond_false]
    rw [bif_t (show (y2 != 0) = true from by simpa using ok2)]
  have : ∃ S H, shapeans p = ((S, H), 0, ()) := ⟨(shapeans p).1.1, (shapeans p).1.2, Prod.ext rfl (Prod.ext ok1 rfl)⟩
  obtain ⟨S, H, hs⟩ := this
  have : ∃ S H, shapeans (wc p q.2.2.2.2.2) = ((S, H), 0, ()) := ⟨(shapeans (wc p q.2.2.2.2.2)).1.1, (shapeans (wc p q.2.2.2.2.2)).1.2, Prod.ext rfl (Prod.ext ok2 rfl)⟩
  obtain ⟨T, K, ht⟩ := this
  obtain ⟨c1, v1⟩ := shapeans_ok hs
  obtain ⟨c2, v2⟩ := shapeans_ok ht
  have J : Join p q.2.2.2.2.2 S T H K := ⟨c1, c2, v1, v2⟩
  rw [hs] at e1
  rw [ht] at e2
  have n1 := (chk_fit c1).d
  have n2 : q.2.2.2.2.2.length ≤ 8192 := (chk_fit c2).d
  obtain ⟨hH, hS, hT, hK, hH2, _⟩ := J.run []
  have b1 := (chk_more c1).2.2
  have b2 : ∀ x ∈ q.2.2.2.2.2, badInstr x = false := (chk_more c2).2.2
  have hSn : S ≤ 8192 ∧ T ≤ 8192 ∧ K ≤ 1024 := by
    obtain ⟨P, RP, FP, zP, eP, uP⟩ := accepted c1 v1
    obtain ⟨Q, RQ, FQ, zQ, eQ, uQ⟩ := accepted c2 v2
    have lP := RP.len
    have lQ := RQ.len
    have hP := (RP.hs P[p.2.2.2.2.2.length] (List.getElem_mem (by omega))).2
    rw [← getD_at (show p.2.2.2.2.2.length < P.length by omega) (z := (-1, 0)), eP] at hP
    have hQ := (RQ.hs Q[(wc p q.2.2.2.2.2).2.2.2.2.2.length] (List.getElem_mem (by omega))).2
    rw [← getD_at (show (wc p q.2.2.2.2.2).2.2.2.2.2.length < Q.length by omega) (z := (-1, 0)), eQ] at hQ
    have l3 : (wc p q.2.2.2.2.2).2.2.2.2.2.length = q.2.2.2.2.2.length := rfl
    rw [l3] at hQ
    simp only at hP hQ
    exact ⟨by omega, by omega, RQ.m.2⟩
  have key : p.2.2.2.2.2.length + q.2.2.2.2.2.length < 8192 → ∀ o, 5 ≤ o ∧ o ≤ 9 → N11 (wc p ([] ++ p.2.2.2.2.2 ++ q.2.2.2.2.2), ()) = some ((0, 0), 171, ()) ∧ N11 (wc p ([] ++ p.2.2.2.2.2 ++ q.2.2.2.2.2 ++ [(o, 0, 0)]), ()) = some (if mx H (K + 1) > 1024 then ((0, 0), 171, ()) else ((S + T + 1, mx H (K + 1)), 0, ())) := fun hl o ho => by
    have bo : badInstr (o, 0, 0) = false := by
      unfold badInstr
      simp only [Bool.or_eq_false_iff, decide_eq_false_iff_not]
      omega
    have k1 : chk (wc p (p.2.2.2.2.2 ++ q.2.2.2.2.2)) = 0 := chk_code c1 (by rw [List.length_append]; omega) fun x hx => by
      rcases List.mem_append.1 hx with h | h
      · exact b1 x h
      · exact b2 x h
    have k2 : chk (wc p (p.2.2.2.2.2 ++ (q.2.2.2.2.2 ++ [(o, 0, 0)]))) = 0 := chk_code c1 (by simp only [List.length_append, List.length_singleton]; omega) fun x hx => by
      rcases List.mem_append.1 hx with h | h
      · exact b1 x h
      rcases List.mem_append.1 h with h | h
      · exact b2 x h
      · rw [List.mem_singleton.1 h]; exact bo
    rw [List.nil_append, List.append_assoc]
    refine ⟨?_, ?_⟩
    · rw [eShape (chk_fit k1).small (wf_wc wp _), shapeans, if_pos k1, J.none]
    · rw [eShape (chk_fit k2).small (wf_wc wp _), shapeans, if_pos k2, J.one ho]
  clear h1 h2 h3 h4 sp wp hs ht c1 c2 v1 v2 J b1 b2 ok1 ok2
  obtain ⟨p0, p1, p2, p3, p4, p5⟩ := p
  obtain ⟨q0, q1, q2, q3, q4, q5⟩ := q
  unfold wc at e2 key
  simp only [] at e2 key n1 n2
  unfold N6 M6
  simp only []
  rw [awake_yes]
  simp only [Option.bind_some, Bool.not_true, cond_false]
  rw [e1]
  simp only [Option.bind_some]
  rw [e2]
  simp only [Option.bind_some, bne_self_eq_false, cond_false]
  rw [wsi (n := (p5.length : Int) + (q5.length : Int)) (by omega)]
  by_cases hl : p5.length + q5.length < 8192
  rotate_left
  · rw [bif_t (decide_eq_true (by omega))]
  have hv : 0 ≤ IntKind.wrap .u64 op := by rw [wu]; omega
  generalize IntKind.wrap .u64 op = v at *
  rw [tmod_pos hv, wsi (n := v % 5) (by omega), wsi (n := 5 + v % 5) (by omega)]
  obtain ⟨f1, f2⟩ := key hl (5 + v % 5) (by omega)
  rw [bif_f (decide_eq_false (by omega)), bif_t (decide_eq_true (by omega))]
  simp only [Option.bind_some]
  rw [bif_t (decide_eq_true (by rw [List.nil_append]; omega))]
  simp only [Option.bind_some]
  rw [f1]
  simp only [Option.bind_some, bne_self_eq_false, cond_false]
  rw [bif_t (decide_eq_true (by simp only [List.nil_append, List.length_append]; omega))]
  simp only [Option.bind_some]
  rw [f2]
  simp only [Option.bind_some]
  rw [wsi (n := K + 1) (by omega), wsi (n := S + T) (by omega), wsi (n := S + T + 1) (by omega)]
  by_cases hk : K + 1 > H
  · rw [bif_t (decide_eq_true hk), show mx H (K + 1) = K + 1 from by unfold mx; rw [if_pos hk]]
    by_cases h24 : K + 1 > 1024
    · rw [bif_t (decide_eq_true h24), if_pos h24]
      rfl
    · rw [bif_f (decide_eq_false h24), if_neg h24]
      simp only [beq_self_eq_true, cond_true]
  · rw [bif_f (decide_eq_false hk), show mx H (K + 1) = H from by unfold mx; rw [if_neg hk]]
    rw [bif_f (decide_eq_false (by omega)), if_neg (by omega)]
    simp only [beq_self_eq_true, cond_true]
end Go.Proofs.Ytigjckjkhnokbaa.E
namespace Go.Proofs.Ytigjckjkhnokbaa.E.Row
open Go Go.ChangeShapes Go.WideShapes Go.ChangeAt Go.RowKit Go.Proofs.Ytigjckjkhnokbaa
set_option linter.unusedVariables false
set_option maxRecDepth 100000
theorem own : ownKnob Try.prog.godebug = none := by kernel_rfl
theorem laidOut : laidOutB Try.prog = true := by kernel_rfl
theorem came30 : Came κ Try.prog 30 (.sl (τ := τ) 2) (fun a : (List Int) => (List.length a * Program.bytesOf Try.prog 2 ≤ 140737488351232 ∧ ∀ x ∈ a, (-9223372036854775808 ≤ x ∧ x ≤ 9223372036854775807))) := Came.slice (κ := κ) (e := 2) (Q := fun x : Int => (-9223372036854775808 ≤ x ∧ x ≤ 9223372036854775807)) Try.underlying30 (by kernel_rfl) (by kernel_rfl) rfl (show Came κ Try.prog 2 (κ 2) (fun x : Int => (-9223372036854775808 ≤ x ∧ x ≤ 9223372036854775807)) from (Came.i64 Try.underlying2))
theorem came66 : Came κ Try.prog 66 ((.pair (.int .i64) (.int .u64)) : K τ (Int × Int)) W66 := Came.struct Try.underlying66 (by kernel_rfl) (CameFs.cons (o1 := 1) (Q := fun x : Int => (-9223372036854775808 ≤ x ∧ x ≤ 9223372036854775807)) rfl (by kernel_rfl) rfl (Came.i64 Try.underlying2) (CameFs.one (Q := fun x : Int => (0 ≤ x ∧ x ≤ 18446744073709551615)) rfl (by kernel_rfl) (Came.u64 Try.underlying64)))
theorem came31 : Came κ Try.prog 31 (.sl (τ := τ) 66) (fun a : (List (Int × Int)) => (List.length a * Program.bytesOf Try.prog 66 ≤ 140737488351232 ∧ ∀ x ∈ a, W66 x)) := Came.slice (κ := κ) (e := 66) (Q := fun x : (Int × Int) => W66 x) Try.underlying31 (by kernel_rfl) (by kernel_rfl) rfl (show Came κ Try.prog 66 (κ 66) (fun x : (Int × Int) => W66 x) from came66)
theorem came69 : Came κ Try.prog 69 ((.pair (.int .i64) (.int .i64)) : K τ (Int × Int)) W69 := Came.struct Try.underlying69 (by kernel_rfl) (CameFs.cons (o1 := 1) (Q := fun x : Int => (-9223372036854775808 ≤ x ∧ x ≤ 9223372036854775807)) rfl (by kernel_rfl) rfl (Came.i64 Try.underlying2) (CameFs.one (Q := fun x : Int => (-9223372036854775808 ≤ x ∧ x ≤ 9223372036854775807)) rfl (by kernel_rfl) (Came.i64 Try.underlying2)))
theorem came67 : Came κ Try.prog 67 (.sl (τ := τ) 69) (fun a : (List (Int × Int)) => (List.length a * Program.bytesOf Try.prog 69 ≤ 140737488351232 ∧ ∀ x ∈ a, W69 x)) := Came.slice (κ := κ) (e := 69) (Q := fun x : (Int × Int) => W69 x) Try.underlying67 (by kernel_rfl) (by kernel_rfl) rfl (show Came κ Try.prog 69 (κ 69) (fun x : (Int × Int) => W69 x) from came69)
theorem came32 : Came κ Try.prog 32 (.sl (τ := τ) 67) (fun a : (List (List (Int × Int))) => (List.length a * Program.bytesOf Try.prog 67 ≤ 140737488351232 ∧ ∀ x ∈ a, (List.length x * Program.bytesOf Try.prog 69 ≤ 140737488351232 ∧ ∀ x' ∈ x, W69 x'))) := Came.slice (κ := κ) (e := 67) (Q := fun x : (List (Int × Int)) => (List.length x * Program.bytesOf Try.prog 69 ≤ 140737488351232 ∧ ∀ x' ∈ x, W69 x')) Try.underlying32 (by kernel_rfl) (by kernel_rfl) rfl (show Came κ Try.prog 67 (κ 67) (fun x : (List (Int × Int)) => (List.length x * Program.bytesOf Try.prog 69 ≤ 140737488351232 ∧ ∀ x' ∈ x, W69 x')) from came67)
theorem came42 : Came κ Try.prog 42 ((.pair (.int .i64) (.pair (.int .i64) (.int .i64))) : K τ (Int × (Int × Int))) W42 := Came.struct Try.underlying42 (by kernel_rfl) (CameFs.cons (o1 := 1) (Q := fun x : Int => (-9223372036854775808 ≤ x ∧ x ≤ 9223372036854775807)) rfl (by kernel_rfl) rfl (Came.i64 Try.underlying3) (CameFs.cons (o1 := 2) (Q := fun x : Int => (-9223372036854775808 ≤ x ∧ x ≤ 9223372036854775807)) rfl (by kernel_rfl) rfl (Came.i64 Try.underlying3) (CameFs.one (Q := fun x : Int => (-9223372036854775808 ≤ x ∧ x ≤ 9223372036854775807)) rfl (by kernel_rfl) (Came.i64 Try.underlying3))))
theorem came33 : Came κ Try.prog 33 (.sl (τ := τ) 42) (fun a : (List (Int × (Int × Int))) => (List.length a * Program.bytesOf Try.prog 42 ≤ 140737488351232 ∧ ∀ x ∈ a, W42 x)) := Came.slice (κ := κ) (e := 42) (Q := fun x : (Int × (Int × Int)) => W42 x) Try.underlying33 (by kernel_rfl) (by kernel_rfl) rfl (show Came κ Try.prog 42 (κ 42) (fun x : (Int × (Int × Int)) => W42 x) from came42)
theorem came35 : Came κ Try.prog 35 ((.pair (.int .i64) (.pair (.int .i64) (.pair (.sl (τ := τ) 2) (.pair (.sl (τ := τ) 66) (.pair (.sl (τ := τ) 67) (.sl (τ := τ) 42)))))) : K τ (Int × (Int × ((List Int) × ((List (Int × Int)) × ((List (List (Int × Int))) × (List (Int × (Int × Int))))))))) W35 := Came.struct Try.underlying35 (by kernel_rfl) (CameFs.cons (o1 := 1) (Q := fun x : Int => (-9223372036854775808 ≤ x ∧ x ≤ 9223372036854775807)) rfl (by kernel_rfl) rfl (Came.i64 Try.underlying3) (CameFs.cons (o1 := 2) (Q := fun x : Int => (-9223372036854775808 ≤ x ∧ x ≤ 9223372036854775807)) rfl (by kernel_rfl) rfl (Came.i64 Try.underlying3) (CameFs.cons (o1 := 3) (Q := fun x : (List Int) => (List.length x * Program.bytesOf Try.prog 2 ≤ 140737488351232 ∧ ∀ x' ∈ x, (-9223372036854775808 ≤ x' ∧ x' ≤ 9223372036854775807))) rfl (by kernel_rfl) rfl came30 (CameFs.cons (o1 := 4) (Q := fun x : (List (Int × Int)) => (List.length x * Program.bytesOf Try.prog 66 ≤ 140737488351232 ∧ ∀ x' ∈ x, W66 x')) rfl (by kernel_rfl) rfl came31 (CameFs.cons (o1 := 5) (Q := fun x : (List (List (Int × Int))) => (List.length x * Program.bytesOf Try.prog 67 ≤ 140737488351232 ∧ ∀ x' ∈ x, (List.length x' * Program.bytesOf Try.prog 69 ≤ 140737488351232 ∧ ∀ x'' ∈ x', W69 x''))) rfl (by kernel_rfl) rfl came32 (CameFs.one (Q := fun x : (List (Int × (Int × Int))) => (List.length x * Program.bytesOf Try.prog 42 ≤ 140737488351232 ∧ ∀ x' ∈ x, W42 x')) rfl (by kernel_rfl) came33))))))
theorem lifted (os : Os) (started : os.Started) (H : Type) (enc : TypeId × Value → H) :
    ReturnsInHanded {} Try.checked os 6 .any (Rows.verifyJoinsSpec.pre6 enc Try.prog Try.f6 Rows.verifyJoinsRow.domain false) (Rows.verifyJoinsSpec.post enc Try.prog Try.f6 false true false false) := by
  refine returnsInHanded_of_change_sized (C := Try.checked) own started (by kernel_rfl) Try.func6
    (ChangeSpec.witness6 (enc := enc) (C := Try.checked) false ⟨#[], #[(.agg #[(.int .i64 0), (.int .i64 0), (.slice none 0 0), (.slice none 0 0), (.slice none 0 0), (.slice none 0 0)]), (.agg #[(.int .i64 0), (.int .i64 0), (.slice none 0 0), (.slice none 0 0), (.slice none 0 0), (.slice none 0 0)]), (.int .i64 0)], []⟩ 8 (by kernel_rfl) (by kernel_rfl) (by kernel_rfl) (by kernel_rfl)) ?_
  intro W base args ds gs before hval0 hW hcnd hsz0 _
  have hsz : (DataW.weightsEach Try.prog (Try.f6.params.toList ++ Rows.verifyJoinsSpec.plain.varTypes Try.prog) (ds ++ gs)).all (· ≤ reachBytes) = true := hsz0
  have hval : ∀ (j : Nat) t v, Try.f6.params[j]? = some t → args[j]? = some v → Value.okWide Try.prog W .any base t v := hval0
  have hW' := hW
  obtain ⟨p, q, hA0, hV, rfl, hfz, hnd⟩ := hW
  have hA : DataW.TrodAll enc Try.prog W 0 (fun _ => true) true Try.f6.params.toList args.toList ds p := hA0
  rw [Try.params6] at hA hval hsz
  obtain ⟨v0, vs0, d0, ds0, p0, q0, hargs, rfl, rfl, h0, r0⟩ := trodAll_cons hA
  obtain ⟨v1, vs1, d1, ds1, p1, q1, rfl, rfl, rfl, h1, r1⟩ := trodAll_cons r0
  obtain ⟨v2, vs2, d2, ds2, p2, q2, rfl, rfl, rfl, h2, r2⟩ := trodAll_cons r1
  obtain ⟨rfl, rfl, rfl⟩ := trodAll_nil r2
  obtain rfl : args = #[v0, v1, v2] := by cases args; simp_all
  obtain ⟨rfl, rfl⟩ := trodVars_none hV
  have hwt : ∀ (j : Nat) t d, [35, 35, 3][j]? = some t → [d0, d1, d2][j]? = some d → ∀ n ∈ DataW.weights Try.prog t d, n ≤ reachBytes := fun j t d h1 h2 n hn => by
    have := List.all_eq_true.1 hsz n (weights_each (j := j) (by simpa using (List.getElem?_append_left (l₂ := Rows.verifyJoinsSpec.plain.varTypes Try.prog) (List.getElem?_eq_some_iff.1 h1).1).trans h1) (by simpa using h2) n hn)
    simpa using this
  have lt0 : ∀ x ∈ p0, x.block < W.heap.size := by obtain ⟨m, hm⟩ := h0; exact DataW.trod_lt m _ _ _ hm
  obtain ⟨a0, e0, y0⟩ := arg_agg Try.underlying35 rfl came35 (hval 0 35 v0 rfl rfl) h0 (hwt 0 35 d0 rfl rfl)
  have lt1 : ∀ x ∈ p1, x.block < W.heap.size := by obtain ⟨m, hm⟩ := h1; exact DataW.trod_lt m _ _ _ hm
  obtain ⟨a1, e1, y1⟩ := arg_agg Try.underlying35 rfl came35 (hval 1 35 v1 rfl rfl) h1 (hwt 1 35 d1 rfl rfl)
  have lt2 : ∀ x ∈ p2, x.block < W.heap.size := by obtain ⟨m, hm⟩ := h2; exact DataW.trod_lt m _ _ _ hm
  obtain ⟨a2, e2, y2⟩ := arg_int Try.underlying3 (Came.i64 Try.underlying3) (hval 2 3 v2 rfl rfl) h2 (hwt 2 3 d2 rfl rfl)
  have hp : N6 (a0, a1, a2, ()) = some (true, ()) := pureVerifyJoins a0 a1 a2 y0 y1 y2
  refine (law_calls (i := i6) (n := N6) (F := Try.f6) (code := bodyOf Try.f6) s6 (by kernel_rfl) Try.func6 (by kernel_rfl) (by kernel_rfl) hp (argsK_cons e0 (argsK_cons e1 (argsK_cons e2 argsK_nil)))).mono fun e W' ⟨he, bel⟩ => ?_
  subst he
  exact ⟨_, rfl, _, _, _, [], _, [], hW', trodAll_mk1 (shut_bool Try.underlying4 _), (trodAll_cons_mk (Below.trod laidOut (by kernel_rfl) (of_decide_eq_true (by kernel_rfl)) h0 bel lt0) (trodAll_cons_mk (Below.trod laidOut (by kernel_rfl) (of_decide_eq_true (by kernel_rfl)) h1 bel lt1) (trodAll_cons_mk (Below.trod laidOut (by kernel_rfl) (of_decide_eq_true (by kernel_rfl)) h2 bel lt2) trodAll_mk0))), rfl, bel.frame _, fun h => by cases h⟩
theorem over : Rows.verifyJoinsRow.holds Try.pinned (OpenSpec.ofChange Rows.verifyJoinsSpec) :=
  OpenClaim.holds_of_wide 6 Try.f6 rfl rfl rfl rfl rfl rfl rfl ⟨rfl, rfl, rfl, rfl, rfl⟩ rfl rfl rfl rfl rfl (by kernel_rfl) Try.func6 (by kernel_rfl)
    (of_decide_eq_true (by kernel_rfl)) (by unfold Func.isWrapper; first | (rw [if_pos (by decide +kernel)]; kernel_rfl) | (rw [if_neg (by decide +kernel)]; exact ⟨rfl, rfl⟩))
    (fun os started H enc _ => lifted os started H enc)
theorem proved : Rows.VerifyJoinsSaid := over
end Go.Proofs.Ytigjckjkhnokbaa.E.Row
namespace Go.Proofs.Ytigjckjkhnokbaa
/-- The row, under a short name, for the claim. -/
theorem verifyJoins_holds : Rows.VerifyJoinsSaid := Ytigjckjkhnokbaa.E.Row.proved
#print axioms verifyJoins_holds
end Go.Proofs.Ytigjckjkhnokbaa
