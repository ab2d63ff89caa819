/- The statement IsaBytes for every input: the plain facts on the functions' results, and the row. No condition. -/
import Derived.Test.YtikmbcpglmcefaaGF0
import Derived.Test.YtikmbcpglmcefaaGE1
import Derived.Test.YtikmbcpglmcefaaRows
import Derived.Test.YtikmbcpglmcefaaChecked
namespace Go.Proofs.Ytikmbcpglmcefaa.E
open Go
def W43 (a : (Int × Int)) : Prop := (-9223372036854775808 ≤ a.1 ∧ a.1 ≤ 9223372036854775807) ∧ (0 ≤ a.2 ∧ a.2 ≤ 18446744073709551615)
def W50 (a : (Int × Int)) : Prop := (-9223372036854775808 ≤ a.1 ∧ a.1 ≤ 9223372036854775807) ∧ (-9223372036854775808 ≤ a.2 ∧ a.2 ≤ 9223372036854775807)
def W45 (a : (Int × (Int × Int))) : Prop := (-9223372036854775808 ≤ a.1 ∧ a.1 ≤ 9223372036854775807) ∧ (-9223372036854775808 ≤ a.2.1 ∧ a.2.1 ≤ 9223372036854775807) ∧ (-9223372036854775808 ≤ a.2.2 ∧ a.2.2 ≤ 9223372036854775807)
def W27 (a : (Int × (Int × ((List Int) × ((List (Int × Int)) × ((List (List (Int × Int))) × (List (Int × (Int × Int))))))))) : Prop := (-9223372036854775808 ≤ a.1 ∧ a.1 ≤ 9223372036854775807) ∧ (-9223372036854775808 ≤ a.2.1 ∧ a.2.1 ≤ 9223372036854775807) ∧ (List.length a.2.2.1 * Program.bytesOf Try.prog 2 ≤ 140737488351232 ∧ ∀ x ∈ a.2.2.1, (-9223372036854775808 ≤ x ∧ x ≤ 9223372036854775807)) ∧ (List.length a.2.2.2.1 * Program.bytesOf Try.prog 43 ≤ 140737488351232 ∧ ∀ x ∈ a.2.2.2.1, W43 x) ∧ (List.length a.2.2.2.2.1 * Program.bytesOf Try.prog 48 ≤ 140737488351232 ∧ ∀ x ∈ a.2.2.2.2.1, (List.length x * Program.bytesOf Try.prog 50 ≤ 140737488351232 ∧ ∀ x' ∈ x, W50 x')) ∧ (List.length a.2.2.2.2.2 * Program.bytesOf Try.prog 45 ≤ 140737488351232 ∧ ∀ x ∈ a.2.2.2.2.2, W45 x)
def PIsaBytes : Prop := ∀ (a0 : (Int × (Int × ((List Int) × ((List (Int × Int)) × ((List (List (Int × Int))) × (List (Int × (Int × Int))))))))), W27 a0 → N3 (a0, ()) = some (true, ())
end Go.Proofs.Ytikmbcpglmcefaa.E
namespace Go.Proofs.Ytikmbcpglmcefaa.E
open Go
set_option linter.unusedVariables false
set_option maxRecDepth 100000
/-! ### tables -/
def badTier (l : List (Int × Int)) (j : Nat) : Bool :=
  (decide (0 < j) && decide ((l.getD j (0, 0)).1 ≤ (l.getD (j - 1) (0, 0)).1)) || decide ((l.getD j (0, 0)).1 > 1000000000000) || decide ((l.getD j (0, 0)).2 < -1000000000000) || decide ((l.getD j (0, 0)).2 > 1000000000000)
def tiersOk (l : List (Int × Int)) : Bool :=
  bif decide ((l.length : Int) < 1) then false else bif decide ((l.length : Int) > 16) then false else bif (l.getD 0 (0, 0)).1 != 0 then false else !((List.range' 0 l.length).any (badTier l))
theorem getD_at {γ : Type} {l : List γ} {j : Nat} {z : γ} (h : j < l.length) : l.getD j z = l[j] := by
  rw [List.getD_eq_getElem?_getD, List.getElem?_eq_getElem h]
  rfl
theorem eright {l : List (Int × Int)} (hl : l.length ≤ 140737488355328) : N21 (l, ()) = some (tiersOk l, ()) := by
  unfold N21 M21 tiersOk
  simp only []
  cases h1 : decide ((l.length : Int) < 1) with
  | true => rfl
  | false =>
  cases h2 : decide ((l.length : Int) > 16) with
  | true => rfl
  | false =>
  have h1 := of_decide_eq_false h1
  have hp : 0 < l.length := by omega
  simp only [cond_false]
  rw [List.getElem?_eq_getElem hp, getD_at hp]
  simp only [Option.bind_some]
  cases h3 : (l[0].1 != 0) with
  | true => rfl
  | false =>
  simp only [cond_false]
  have := itrs_any (ro := R21_0) (fun j => (l, l, (l.length : Int), (j : Int), ())) (badTier l) (.inr (false, ())) (.inl ()) l.length (x := (l, l, (l.length : Int), 0, ())) rfl (fun j hj => by
    unfold R21_0 Q21_0
    simp only []
    rw [bif_t (decide_eq_true (show (j : Int) < (l.length : Int) by omega)), at_get hj]
    simp only [Option.bind_some]
    rw [wsi (n := (j : Int) + 1) (by omega)]
    unfold badTier
    rw [getD_at hj]
    by_cases h0 : 0 < j
    · rw [bif_t (decide_eq_true (show (j : Int) > 0 by omega)), wsi (n := (j : Int) - 1) (by omega), show (j : Int) - 1 = ((j - 1 : Nat) : Int) from by omega, at_get (show j - 1 < l.length by omega), getD_at (show j - 1 < l.length by omega), decide_eq_true h0]
      simp only [Option.bind_some, Bool.true_and, show (j : Int) + 1 = ((j + 1 : Nat) : Int) from by omega]
      cases decide (l[j].1 ≤ l[j - 1].1) <;> cases decide (l[j].1 > 1000000000000) <;> cases decide (l[j].2 < -1000000000000) <;> cases decide (l[j].2 > 1000000000000) <;> rfl
    · rw [bif_f (decide_eq_false (show ¬ (j : Int) > 0 by omega)), decide_eq_false h0]
      simp only [Bool.false_and, Bool.false_or, show (j : Int) + 1 = ((j + 1 : Nat) : Int) from by omega]
      cases decide (l[j].1 > 1000000000000) <;> cases decide (l[j].2 < -1000000000000) <;> cases decide (l[j].2 > 1000000000000) <;> rfl) (by
    unfold R21_0 Q21_0
    simp only []
    rw [bif_f (decide_eq_false (by omega))]) (by omega)
  rw [this]
  cases (List.range' 0 l.length).any (badTier l) <;> rfl
theorem rTiers {l : List (Int × Int)} (hl : l.length ≤ 140737488355328) : N22 (l, ()) = some (tiersOk l, ()) := by
  unfold N22 M22 tiersOk
  simp only []
  by_cases h1 : l.length = 0
  · rw [bif_t (show ((l.length : Int) == 0) = true from by simp [h1]), bif_t (decide_eq_true (by omega))]
  rw [bif_f (show ((l.length : Int) == 0) = false from by simp; intro e; rw [e] at h1; simp at h1), bif_f (decide_eq_false (show ¬ (l.length : Int) < 1 by omega))]
  cases h2 : decide ((l.length : Int) > 16) with
  | true => rfl
  | false =>
  have hp : 0 < l.length := by omega
  simp only [cond_false]
  rw [List.getElem?_eq_getElem hp, getD_at hp]
  simp only [Option.bind_some]
  cases h3 : (l[0].1 != 0) with
  | true => rfl
  | false =>
  simp only [cond_false]
  have := itrs_any (ro := R22_0) (fun j => (l, (j : Int), ())) (badTier l) (.inr (false, ())) (.inl ()) l.length (x := (l, 0, ())) rfl (fun j hj => by
    unfold R22_0 Q22_0
    simp only []
    rw [bif_t (decide_eq_true (show (j : Int) < (l.length : Int) by omega)), at_get hj]
    simp only [Option.bind_some]
    rw [wsi (n := (j : Int) + 1) (by omega)]
    unfold badTier
    rw [getD_at hj]
    by_cases h0 : 0 < j
    · rw [bif_t (decide_eq_true (show (j : Int) > 0 by omega)), wsi (n := (j : Int) - 1) (by omega), show (j : Int) - 1 = ((j - 1 : Nat) : Int) from by omega, at_get (show j - 1 < l.length by omega), getD_at (show j - 1 < l.length by omega), decide_eq_true h0]
      simp only [Option.bind_some, Bool.true_and, show (j : Int) + 1 = ((j + 1 : Nat) : Int) from by omega, ge_iff_le]
      cases decide (l[j].1 ≤ l[j - 1].1) <;> cases decide (l[j].1 > 1000000000000) <;> cases decide (l[j].2 < -1000000000000) <;> cases decide (l[j].2 > 1000000000000) <;> rfl
    · rw [bif_f (decide_eq_false (show ¬ (j : Int) > 0 by omega)), decide_eq_false h0]
      simp only [Bool.false_and, Bool.false_or, show (j : Int) + 1 = ((j + 1 : Nat) : Int) from by omega]
      cases decide (l[j].1 > 1000000000000) <;> cases decide (l[j].2 < -1000000000000) <;> cases decide (l[j].2 > 1000000000000) <;> rfl) (by
    unfold R22_0 Q22_0
    simp only []
    rw [bif_f (decide_eq_false (by omega))]) (by omega)
  rw [this]
  cases (List.range' 0 l.length).any (badTier l) <;> rfl
/-! ### checks -/
abbrev Prg : Type := Int × Int × List Int × List (Int × Int) × List (List (Int × Int)) × List (Int × Int × Int)
def badSize (x : Int) : Bool := decide (x < 1) || decide (x > 1000000000000)
def badInstr (c : Int × Int × Int) : Bool := decide (c.1 < 0) || decide (c.1 > 255) || decide (c.2.1 < 0) || decide (c.2.1 > 65535) || decide (c.2.2 < 0) || decide (c.2.2 > 65535)
/-- Why a program has no bytes; 0 if it has. -/
def chk (p : Prg) : Int :=
  bif decide (p.1 < 0) then 1 else bif decide (p.1 > 4) then 1 else bif decide (p.2.1 < 0) then 1 else bif decide (p.2.1 > 6) then 1 else bif decide ((p.2.2.1.length : Int) < 1) then 1 else bif decide ((p.2.2.1.length : Int) > 4) then 1 else
  bif (List.range' 0 p.2.2.1.length).any (fun j => badSize (p.2.2.1.getD j 0)) then 1 else
  bif decide ((p.2.2.2.1.length : Int) > 1024) then 2 else bif decide ((p.2.2.2.2.1.length : Int) > 1024) then 2 else bif decide ((p.2.2.2.2.2.length : Int) > 8192) then 2 else
  bif (List.range' 0 p.2.2.2.2.1.length).any (fun j => !tiersOk (p.2.2.2.2.1.getD j [])) then 51 else
  bif (List.range' 0 p.2.2.2.2.2.length).any (fun j => badInstr (p.2.2.2.2.2.getD j (0, 0, 0))) then 170 else 0
/-- What the reader of arguments knows of a program's lists. -/
structure Small (p : Prg) : Prop where
  a : p.2.2.1.length ≤ 140737488355328
  b : p.2.2.2.1.length ≤ 140737488355328
  c : p.2.2.2.2.1.length ≤ 140737488355328
  d : p.2.2.2.2.2.length ≤ 140737488355328
  e : ∀ l ∈ p.2.2.2.2.1, l.length ≤ 140737488355328
theorem echeck {p : Prg} (hp : Small p) : N13 (p, ()) = some (chk p, ()) := by
  obtain ⟨mode, scale, sizes, consts, scales, code⟩ := p
  obtain ⟨pa, pb, pc, pd, pe⟩ := hp
  simp only at pa pb pc pd pe
  unfold N13 M13 chk
  simp only []
  cases decide (mode < 0)
  rotate_left
  · rfl
  cases decide (mode > 4)
  rotate_left
  · rfl
  cases decide (scale < 0)
  rotate_left
  · rfl
  cases decide (scale > 6)
  rotate_left
  · rfl
  cases decide ((sizes.length : Int) < 1)
  rotate_left
  · rfl
  cases decide ((sizes.length : Int) > 4)
  rotate_left
  · rfl
  simp only [cond_false]
  have L0 := itrs_any (ro := R13_0) (fun j => ((mode, scale, sizes, consts, scales, code, ()), sizes, (sizes.length : Int), (j : Int), ())) (fun j => badSize (sizes.getD j 0)) (.inr (1, ())) (.inl ((mode, scale, sizes, consts, scales, code, ()), ())) sizes.length (x := ((mode, scale, sizes, consts, scales, code, ()), sizes, (sizes.length : Int), 0, ())) rfl (fun j hj => by
    unfold R13_0 Q13_0 badSize
    simp only []
    rw [bif_t (decide_eq_true (show (j : Int) < (sizes.length : Int) by omega)), at_get hj, getD_at hj]
    simp only [Option.bind_some]
    rw [wsi (n := (j : Int) + 1) (by omega)]
    simp only [show (j : Int) + 1 = ((j + 1 : Nat) : Int) from by omega]
    cases decide (sizes[j] < 1) <;> cases decide (sizes[j] > 1000000000000) <;> rfl) (by
    unfold R13_0 Q13_0
    simp only []
    rw [bif_f (decide_eq_false (by omega))]) (by omega)
  rw [L0]
  cases (List.range' 0 sizes.length).any (fun j => badSize (sizes.getD j 0))
  rotate_left
  · rfl
  simp only [cond_false, Option.bind_some]
  cases decide ((consts.length : Int) > 1024)
  rotate_left
  · rfl
  cases decide ((scales.length : Int) > 1024)
  rotate_left
  · rfl
  cases decide ((code.length : Int) > 8192)
  rotate_left
  · rfl
  simp only [cond_false]
  have L2 := itrs_any (ro := R13_2) (fun j => ((mode, scale, sizes, consts, scales, code, ()), scales, (scales.length : Int), (j : Int), ())) (fun j => !tiersOk (scales.getD j [])) (.inr (51, ())) (.inl ((mode, scale, sizes, consts, scales, code, ()), ())) scales.length (x := ((mode, scale, sizes, consts, scales, code, ()), scales, (scales.length : Int), 0, ())) rfl (fun j hj => by
    unfold R13_2 Q13_2
    simp only []
    rw [bif_t (decide_eq_true (show (j : Int) < (scales.length : Int) by omega)), at_get hj, getD_at hj]
    simp only [Option.bind_some]
    rw [eright (pe _ (List.getElem_mem hj))]
    simp only [Option.bind_some]
    rw [wsi (n := (j : Int) + 1) (by omega)]
    simp only [show (j : Int) + 1 = ((j + 1 : Nat) : Int) from by omega]) (by
    unfold R13_2 Q13_2
    simp only []
    rw [bif_f (decide_eq_false (by omega))]) (by omega)
  rw [L2]
  cases (List.range' 0 scales.length).any (fun j => !tiersOk (scales.getD j []))
  rotate_left
  · rfl
  simp only [cond_false, Option.bind_some]
  have L4 := itrs_any (ro := R13_4) (fun j => (code, (code.length : Int), (j : Int), ())) (fun j => badInstr (code.getD j (0, 0, 0))) (.inr (170, ())) (.inl ()) code.length (x := (code, (code.length : Int), 0, ())) rfl (fun j hj => by
    unfold R13_4 Q13_4 badInstr
    simp only []
    rw [bif_t (decide_eq_true (show (j : Int) < (code.length : Int) by omega)), at_get hj, getD_at hj]
    simp only [Option.bind_some]
    rw [wsi (n := (j : Int) + 1) (by omega)]
    simp only [show (j : Int) + 1 = ((j + 1 : Nat) : Int) from by omega]
    cases decide (code[j].1 < 0)
    rotate_left
    · rfl
    cases decide (code[j].1 > 255)
    rotate_left
    · rfl
    cases decide (code[j].2.1 < 0)
    rotate_left
    · rfl
    cases decide (code[j].2.1 > 65535)
    rotate_left
    · rfl
    cases decide (code[j].2.2 < 0) <;> cases decide (code[j].2.2 > 65535) <;> rfl) (by
    unfold R13_4 Q13_4
    simp only []
    rw [bif_f (decide_eq_false (by omega))]) (by omega)
  rw [L4]
  cases (List.range' 0 code.length).any (fun j => badInstr (code.getD j (0, 0, 0))) <;> rfl
theorem rCheck {p : Prg} (hp : Small p) : N15 (p, ()) = some (chk p, ()) := by
  obtain ⟨mode, scale, sizes, consts, scales, code⟩ := p
  obtain ⟨pa, pb, pc, pd, pe⟩ := hp
  simp only at pa pb pc pd pe
  unfold N15 M15 chk
  simp only []
  cases decide (mode < 0)
  rotate_left
  · rfl
  cases decide (mode > 4)
  rotate_left
  · rfl
  cases decide (scale < 0)
  rotate_left
  · rfl
  cases decide (scale > 6)
  rotate_left
  · rfl
  simp only [cond_false]
  rw [show ((sizes.length : Int) == 0) = decide ((sizes.length : Int) < 1) from by rw [Bool.eq_iff_iff]; simp only [beq_iff_eq, decide_eq_true_eq]; omega]
  cases decide ((sizes.length : Int) < 1)
  rotate_left
  · rfl
  cases decide ((sizes.length : Int) > 4)
  rotate_left
  · rfl
  simp only [cond_false]
  have L0 := itrs_any (ro := R15_0) (fun j => ((mode, scale, sizes, consts, scales, code, ()), (j : Int), ())) (fun j => badSize (sizes.getD j 0)) (.inr (1, ())) (.inl ((mode, scale, sizes, consts, scales, code, ()), ())) sizes.length (x := ((mode, scale, sizes, consts, scales, code, ()), 0, ())) rfl (fun j hj => by
    unfold R15_0 Q15_0 badSize
    simp only []
    rw [bif_t (decide_eq_true (show (j : Int) < (sizes.length : Int) by omega)), at_get hj, getD_at hj]
    simp only [Option.bind_some]
    rw [wsi (n := (j : Int) + 1) (by omega)]
    simp only [show (j : Int) + 1 = ((j + 1 : Nat) : Int) from by omega]
    cases decide (sizes[j] < 1) <;> cases decide (sizes[j] > 1000000000000) <;> rfl) (by
    unfold R15_0 Q15_0
    simp only []
    rw [bif_f (decide_eq_false (by omega))]) (by omega)
  rw [L0]
  cases (List.range' 0 sizes.length).any (fun j => badSize (sizes.getD j 0))
  rotate_left
  · rfl
  simp only [cond_false, Option.bind_some]
  cases decide ((consts.length : Int) > 1024)
  rotate_left
  · rfl
  cases decide ((scales.length : Int) > 1024)
  rotate_left
  · rfl
  cases decide ((code.length : Int) > 8192)
  rotate_left
  · rfl
  simp only [cond_false]
  have L2 := itrs_any (ro := R15_2) (fun j => ((mode, scale, sizes, consts, scales, code, ()), (j : Int), ())) (fun j => !tiersOk (scales.getD j [])) (.inr (51, ())) (.inl ((mode, scale, sizes, consts, scales, code, ()), ())) scales.length (x := ((mode, scale, sizes, consts, scales, code, ()), 0, ())) rfl (fun j hj => by
    unfold R15_2 Q15_2
    simp only []
    rw [bif_t (decide_eq_true (show (j : Int) < (scales.length : Int) by omega)), at_get hj, getD_at hj]
    simp only [Option.bind_some]
    rw [rTiers (pe _ (List.getElem_mem hj))]
    simp only [Option.bind_some]
    rw [wsi (n := (j : Int) + 1) (by omega)]
    simp only [show (j : Int) + 1 = ((j + 1 : Nat) : Int) from by omega]) (by
    unfold R15_2 Q15_2
    simp only []
    rw [bif_f (decide_eq_false (by omega))]) (by omega)
  rw [L2]
  cases (List.range' 0 scales.length).any (fun j => !tiersOk (scales.getD j []))
  rotate_left
  · rfl
  simp only [cond_false, Option.bind_some]
  have L4 := itrs_any (ro := R15_4) (fun j => ((mode, scale, sizes, consts, scales, code, ()), (j : Int), ())) (fun j => badInstr (code.getD j (0, 0, 0))) (.inr (170, ())) (.inl ()) code.length (x := ((mode, scale, sizes, consts, scales, code, ()), 0, ())) rfl (fun j hj => by
    unfold R15_4 Q15_4 badInstr
    simp only []
    rw [bif_t (decide_eq_true (show (j : Int) < (code.length : Int) by omega)), at_get hj, getD_at hj]
    simp only [Option.bind_some]
    rw [wsi (n := (j : Int) + 1) (by omega)]
    simp only [show (j : Int) + 1 = ((j + 1 : Nat) : Int) from by omega]
    cases decide (code[j].1 < 0)
    rotate_left
    · rfl
    cases decide (code[j].1 > 255)
    rotate_left
    · rfl
    cases decide (code[j].2.1 < 0)
    rotate_left
    · rfl
    cases decide (code[j].2.1 > 65535)
    rotate_left
    · rfl
    cases decide (code[j].2.2 < 0) <;> cases decide (code[j].2.2 > 65535) <;> rfl) (by
    unfold R15_4 Q15_4
    simp only []
    rw [bif_f (decide_eq_false (by omega))]) (by omega)
  rw [L4]
  cases (List.range' 0 code.length).any (fun j => badInstr (code.getD j (0, 0, 0))) <;> rfl
end Go.Proofs.Ytikmbcpglmcefaa.E
namespace Go.Proofs.Ytikmbcpglmcefaa.E
open Go
set_option linter.unusedVariables false
set_option maxRecDepth 100000
/-- A number's lowest bytes, the lowest first. -/
def le : Nat → Int → List Int
  | 0, _ => []
  | k + 1, x => x % 256 :: le k (x / 256)
theorem le_len : ∀ (k : Nat) (x : Int), (le k x).length = k
  | 0, _ => rfl
  | k + 1, x => by rw [le, List.length_cons, le_len k]
theorem flat_len {γ δ : Type} {f : γ → List δ} {m : Nat} : ∀ (l : List γ), (∀ x ∈ l, (f x).length ≤ m) → (l.flatMap f).length ≤ l.length * m
  | [], _ => by simp
  | x :: l, h => by
    have h1 := h x (by simp)
    have h2 := flat_len l fun y hy => h y (by simp [hy])
    rw [List.flatMap_cons, List.length_append, List.length_cons, Nat.add_mul, Nat.one_mul]
    omega
theorem flat_take_len {γ δ : Type} {f : γ → List δ} {m : Nat} {l : List γ} (h : ∀ x ∈ l, (f x).length ≤ m) (j : Nat) : ((l.take j).flatMap f).length ≤ l.length * m := by
  have h1 := flat_len (l.take j) fun x hx => h x (List.mem_of_mem_take hx)
  have h2 : (l.take j).length ≤ l.length := by simp; omega
  exact Nat.le_trans h1 (Nat.mul_le_mul_right _ h2)
theorem eput_loop (K : Nat) (hK : K ≤ 8) : ∀ (m j : Nat) (b : List Int) (n : Int), j + m = K → 0 ≤ n ∧ n ≤ 18446744073709551615 → b.length + m ≤ 140737488355328 → itr R14_0 (m + 1) (b, n, (K : Int), (j : Int), ()) = some (b ++ le m n, ())
  | 0, j, b, n, hj, hn, hb => by
    refine itr_out ?_
    unfold R14_0 Q14_0
    simp only []
    rw [bif_f (decide_eq_false (by omega)), le, List.append_nil]
  | m + 1, j, b, n, hj, hn, hb => by
    have hs : R14_0 (b, n, (K : Int), (j : Int), ()) = some (.inl (b ++ [n % 256], n / 256, (K : Int), ((j + 1 : Nat) : Int), ())) := by
      unfold R14_0 Q14_0
      simp only []
      rw [bif_t (decide_eq_true (by omega)), bif_t (decide_eq_true (by omega)), w8, fdiv_pos (by omega), wsi (by omega)]
      rfl
    rw [itr_in hs, eput_loop K hK m (j + 1) (b ++ [n % 256]) (n / 256) (by omega) (by omega) (by simp; omega), le]
    simp
theorem eput {b : List Int} {n : Int} {K : Nat} (hK : K ≤ 8) (hn : 0 ≤ n ∧ n ≤ 18446744073709551615) (hb : b.length + K ≤ 140737488355328) : N14 (b, n, (K : Int), ()) = some (b ++ le K n, ()) := by
  unfold N14 M14
  simp only []
  have := itrs_of (eput_loop K hK K 0 b n (by omega) hn hb) (by omega)
  rw [show (0 : Int) = ((0 : Nat) : Int) from rfl, this]
  rfl
theorem rput_loop (K : Nat) (hK : K ≤ 8) : ∀ (m j : Nat) (b : List Int) (n : Int), j + m = K → 0 ≤ n ∧ n ≤ 18446744073709551615 → b.length + m ≤ 140737488355328 → itr R16_0 (m + 1) (b, n, (K : Int), (j : Int), ()) = some (b ++ le m n, ())
  | 0, j, b, n, hj, hn, hb => by
    refine itr_out ?_
    unfold R16_0 Q16_0
    simp only []
    rw [bif_f (decide_eq_false (by omega)), le, List.append_nil]
  | m + 1, j, b, n, hj, hn, hb => by
    have hs : R16_0 (b, n, (K : Int), (j : Int), ()) = some (.inl (b ++ [n % 256], n / 256, (K : Int), ((j + 1 : Nat) : Int), ())) := by
      unfold R16_0 Q16_0
      simp only []
      rw [bif_t (decide_eq_true (by omega)), bif_t (decide_eq_true (by omega)), w8, tdiv_pos (by omega), wui (by omega), wsi (by omega)]
      rfl
    rw [itr_in hs, rput_loop K hK m (j + 1) (b ++ [n % 256]) (n / 256) (by omega) (by omega) (by simp; omega), le]
    simp
theorem rput {b : List Int} {n : Int} {K : Nat} (hK : K ≤ 8) (hn : 0 ≤ n ∧ n ≤ 18446744073709551615) (hb : b.length + K ≤ 140737488355328) : N16 (b, n, (K : Int), ()) = some (b ++ le K n, ()) := by
  unfold N16 M16
  simp only []
  have := itrs_of (rput_loop K hK K 0 b n (by omega) hn hb) (by omega)
  rw [show (0 : Int) = ((0 : Nat) : Int) from rfl, this]
  rfl
def u64 (x : Int) : Int := x % 18446744073709551616
theorem u64_in (x : Int) : 0 ≤ u64 x ∧ u64 x ≤ 18446744073709551615 := by unfold u64; omega
def encSize (s : Int) : List Int := le 8 (u64 s)
def encWide (w : Int × Int) : List Int := le 8 w.2 ++ le 8 (u64 w.1)
def encTier (t : Int × Int) : List Int := le 8 (u64 t.1) ++ le 8 (u64 t.2)
def encTiers (l : List (Int × Int)) : List Int := ((l.length : Int) % 256) :: l.flatMap encTier
def encInstr (c : Int × Int × Int) : List Int := le 1 (u64 c.1) ++ le 2 (u64 c.2.1) ++ le 2 (u64 c.2.2)
def headB (p : Prg) : List Int := [79, 67, 84, 49, p.1 % 256, p.2.1 % 256, (p.2.2.1.length : Int) % 256]
/-- A program's bytes. -/
def encB (p : Prg) : List Int :=
  headB p ++ p.2.2.1.flatMap encSize ++ le 2 (p.2.2.2.1.length : Int) ++ p.2.2.2.1.flatMap encWide ++ le 2 (p.2.2.2.2.1.length : Int) ++ p.2.2.2.2.1.flatMap encTiers ++ le 2 (p.2.2.2.2.2.length : Int) ++ p.2.2.2.2.2.flatMap encInstr
section
variable (z : Int × Int × List Int × List (Int × Int) × List (List (Int × Int)) × List (Int × Int × Int) × Unit)
theorem e_sizes {b l : List Int} (h : b.length + l.length * 8 ≤ 140737488355328) : itrs R8_0 (z, b, l, (l.length : Int), 0, ()) = some (z, b ++ l.flatMap encSize, ()) := by
  obtain ⟨z0, z1, z2, z3, z4, z5, ⟨⟩⟩ := z
  refine itrs_seq (fun j => ((z0, z1, z2, z3, z4, z5, ()), b ++ (l.take j).flatMap encSize, l, (l.length : Int), (j : Int), ())) l.length (by simp) (fun j hj => ?_) ?_ (by omega)
  · have hb := flat_take_len (f := encSize) (m := 8) (l := l) (fun x _ => by simp [encSize, le_len]) j
    have hj2 : ((l.take j).flatMap encSize).length ≤ j * 8 := Nat.le_trans (flat_len (l.take j) fun x _ => by simp [encSize, le_len]) (Nat.mul_le_mul_right _ (by simp; omega))
    unfold R8_0 Q8_0
    simp only []
    rw [bif_t (decide_eq_true (by omega)), at_get hj]
    simp only [Option.bind_some]
    have := eput (b := b ++ (l.take j).flatMap encSize) (n := u64 l[j]) (K := 8) (by omega) (u64_in _) (by rw [List.length_append]; omega)
    rw [wu, show l[j] % 18446744073709551616 = u64 l[j] from rfl, show (8 : Int) = ((8 : Nat) : Int) from rfl, this]
    simp only [Option.bind_some]
    rw [wsi (by omega), take_flat _ _ hj, List.append_assoc]
    rfl
  · unfold R8_0 Q8_0
    simp only []
    rw [bif_f (decide_eq_false (by omega)), List.take_length]
theorem e_consts {b : List Int} {l : List (Int × Int)} (hl : ∀ w ∈ l, 0 ≤ w.2 ∧ w.2 ≤ 18446744073709551615) (h : b.length + l.length * 16 ≤ 140737488355328) : itrs R8_2 (z, b, l, (l.length : Int), 0, ()) = some (z, b ++ l.flatMap encWide, ()) := by
  obtain ⟨z0, z1, z2, z3, z4, z5, ⟨⟩⟩ := z
  refine itrs_seq (fun j => ((z0, z1, z2, z3, z4, z5, ()), b ++ (l.take j).flatMap encWide, l, (l.length : Int), (j : Int), ())) l.length (by simp) (fun j hj => ?_) ?_ (by omega)
  · have hj2 : ((l.take j).flatMap encWide).length ≤ j * 16 := Nat.le_trans (flat_len (l.take j) fun x _ => by simp [encWide, le_len]) (Nat.mul_le_mul_right _ (by simp; omega))
    unfold R8_2 Q8_2
    simp only []
    rw [bif_t (decide_eq_true (by omega)), at_get hj]
    simp only [Option.bind_some]
    rw [wu, show l[j].1 % 18446744073709551616 = u64 l[j].1 from rfl, show (8 : Int) = ((8 : Nat) : Int) from rfl, eput (by omega) (hl _ (List.getElem_mem hj)) (by rw [List.length_append]; omega)]
    simp only [Option.bind_some]
    rw [eput (by omega) (u64_in _) (by rw [List.length_append, List.length_append, le_len]; omega)]
    simp only [Option.bind_some]
    rw [wsi (by omega), take_flat _ _ hj, List.append_assoc, List.append_assoc]
    rfl
  · unfold R8_2 Q8_2
    simp only []
    rw [bif_f (decide_eq_false (by omega)), List.take_length]
theorem e_tiers {b : List Int} {l : List (Int × Int)} {ts : List (List (Int × Int))} {n i : Int} (h : b.length + l.length * 16 ≤ 140737488355328) : itrs R8_6 (z, b, ts, n, i, l, (l.length : Int), 0, ()) = some (z, b ++ l.flatMap encTier, ts, n, i, ()) := by
  obtain ⟨z0, z1, z2, z3, z4, z5, ⟨⟩⟩ := z
  refine itrs_seq (fun j => ((z0, z1, z2, z3, z4, z5, ()), b ++ (l.take j).flatMap encTier, ts, n, i, l, (l.length : Int), (j : Int), ())) l.length (by simp) (fun j hj => ?_) ?_ (by omega)
  · have hj2 : ((l.take j).flatMap encTier).length ≤ j * 16 := Nat.le_trans (flat_len (l.take j) fun x _ => by simp [encTier, le_len]) (Nat.mul_le_mul_right _ (by simp; omega))
    unfold R8_6 Q8_6
    simp only []
    rw [bif_t (decide_eq_true (by omega)), at_get hj]
    simp only [Option.bind_some]
    rw [wu, wu, show l[j].1 % 18446744073709551616 = u64 l[j].1 from rfl, show l[j].2 % 18446744073709551616 = u64 l[j].2 from rfl, show (8 : Int) = ((8 : Nat) : Int) from rfl, eput (by omega) (u64_in _) (by rw [List.length_append]; omega)]
    simp only [Option.bind_some]
    rw [eput (by omega) (u64_in _) (by rw [List.length_append, List.length_append, le_len]; omega)]
    simp only [Option.bind_some]
    rw [wsi (by omega), take_flat _ _ hj, List.append_assoc, List.append_assoc]
    rfl
  · unfold R8_6 Q8_6
    simp only []
    rw [bif_f (decide_eq_false (by omega)), List.take_length]
theorem encTiers_len {l : List (Int × Int)} (h : l.length ≤ 16) : (encTiers l).length ≤ 257 := by
  have := flat_len (f := encTier) (m := 16) l fun x _ => by simp [encTier, le_len]
  rw [encTiers, List.length_cons]
  omega
theorem e_scales {b : List Int} {l : List (List (Int × Int))} (hl : ∀ t ∈ l, t.length ≤ 16) (h : b.length + l.length * 257 ≤ 140737488355328) : itrs R8_4 (z, b, l, (l.length : Int), 0, ()) = some (z, b ++ l.flatMap encTiers, ()) := by
  obtain ⟨z0, z1, z2, z3, z4, z5, ⟨⟩⟩ := z
  refine itrs_seq (fun j => ((z0, z1, z2, z3, z4, z5, ()), b ++ (l.take j).flatMap encTiers, l, (l.length : Int), (j : Int), ())) l.length (by simp) (fun j hj => ?_) ?_ (by omega)
  · have hj2 : ((l.take j).flatMap encTiers).length ≤ j * 257 := Nat.le_trans (flat_len (l.take j) fun x hx => encTiers_len (hl x (List.mem_of_mem_take hx))) (Nat.mul_le_mul_right _ (by simp; omega))
    have ht := hl _ (List.getElem_mem hj)
    unfold R8_4 Q8_4
    simp only []
    rw [bif_t (decide_eq_true (by omega)), at_get hj]
    simp only [Option.bind_some]
    rw [bif_t (decide_eq_true (by rw [List.length_append]; omega))]
    simp only [Option.bind_some]
    rw [e_tiers _ (by simp only [List.length_append, List.length_singleton]; omega)]
    simp only [Option.bind_some]
    rw [wsi (by omega), take_flat _ _ hj, w8]
    simp [encTiers]
  · unfold R8_4 Q8_4
    simp only []
    rw [bif_f (decide_eq_false (by omega)), List.take_length]
omit z in
theorem e_code {b : List Int} {l : List (Int × Int × Int)} (h : b.length + l.length * 5 ≤ 140737488355328) : itrs R8_8 (b, l, (l.length : Int), 0, ()) = some (b ++ l.flatMap encInstr, ()) := by
  refine itrs_seq (fun j => (b ++ (l.take j).flatMap encInstr, l, (l.length : Int), (j : Int), ())) l.length (by simp) (fun j hj => ?_) ?_ (by omega)
  · have hj2 : ((l.take j).flatMap encInstr).length ≤ j * 5 := Nat.le_trans (flat_len (l.take j) fun x _ => by simp [encInstr, le_len]) (Nat.mul_le_mul_right _ (by simp; omega))
    unfold R8_8 Q8_8
    simp only []
    rw [bif_t (decide_eq_true (by omega)), at_get hj]
    simp only [Option.bind_some]
    rw [wu, wu, wu, show l[j].1 % 18446744073709551616 = u64 l[j].1 from rfl, show l[j].2.1 % 18446744073709551616 = u64 l[j].2.1 from rfl, show l[j].2.2 % 18446744073709551616 = u64 l[j].2.2 from rfl]
    have p1 := eput (b := b ++ (l.take j).flatMap encInstr) (n := u64 l[j].1) (K := 1) (by omega) (u64_in _) (by rw [List.length_append]; omega)
    rw [show (1 : Int) = ((1 : Nat) : Int) from rfl, p1]
    simp only [Option.bind_some]
    rw [show (2 : Int) = ((2 : Nat) : Int) from rfl, eput (by omega) (u64_in _) (by simp only [List.length_append, le_len]; omega)]
    simp only [Option.bind_some]
    rw [eput (by omega) (u64_in _) (by simp only [List.length_append, le_len]; omega)]
    simp only [Option.bind_some]
    rw [wsi (by omega), take_flat _ _ hj]
    simp [encInstr]
  · unfold R8_8 Q8_8
    simp only []
    rw [bif_f (decide_eq_false (by omega)), List.take_length]
/-! ### the reference -/
end
section
variable (mode scale : Int) (sizes : List Int) (consts : List (Int × Int)) (scales : List (List (Int × Int))) (code : List (Int × Int × Int))
theorem r_sizes {b : List Int} (h : b.length + sizes.length * 8 ≤ 140737488355328) : itrs R9_0 ((mode, scale, sizes, consts, scales, code, ()), b, 0, ()) = some ((mode, scale, sizes, consts, scales, code, ()), b ++ sizes.flatMap encSize, ()) := by
  refine itrs_seq (fun j => ((mode, scale, sizes, consts, scales, code, ()), b ++ (sizes.take j).flatMap encSize, (j : Int), ())) sizes.length (by simp) (fun j hj => ?_) ?_ (by omega)
  · have hj2 : ((sizes.take j).flatMap encSize).length ≤ j * 8 := Nat.le_trans (flat_len (sizes.take j) fun x _ => by simp [encSize, le_len]) (Nat.mul_le_mul_right _ (by simp; omega))
    unfold R9_0 Q9_0
    simp only []
    rw [bif_t (decide_eq_true (by omega)), at_get hj]
    simp only [Option.bind_some]
    rw [wu, show sizes[j] % 18446744073709551616 = u64 sizes[j] from rfl, show (8 : Int) = ((8 : Nat) : Int) from rfl, rput (by omega) (u64_in _) (by rw [List.length_append]; omega)]
    simp only [Option.bind_some]
    rw [wsi (by omega), take_flat _ _ hj, List.append_assoc]
    rfl
  · unfold R9_0 Q9_0
    simp only []
    rw [bif_f (decide_eq_false (by omega)), List.take_length]
theorem r_consts {b : List Int} (hl : ∀ w ∈ consts, 0 ≤ w.2 ∧ w.2 ≤ 18446744073709551615) (h : b.length + consts.length * 16 ≤ 140737488355328) : itrs R9_2 ((mode, scale, sizes, consts, scales, code, ()), b, 0, ()) = some ((mode, scale, sizes, consts, scales, code, ()), b ++ consts.flatMap encWide, ()) := by
  refine itrs_seq (fun j => ((mode, scale, sizes, consts, scales, code, ()), b ++ (consts.take j).flatMap encWide, (j : Int), ())) consts.length (by simp) (fun j hj => ?_) ?_ (by omega)
  · have hj2 : ((consts.take j).flatMap encWide).length ≤ j * 16 := Nat.le_trans (flat_len (consts.take j) fun x _ => by simp [encWide, le_len]) (Nat.mul_le_mul_right _ (by simp; omega))
    unfold R9_2 Q9_2
    simp only []
    rw [bif_t (decide_eq_true (by omega)), at_get hj]
    simp only [Option.bind_some]
    rw [wu, show consts[j].1 % 18446744073709551616 = u64 consts[j].1 from rfl, show (8 : Int) = ((8 : Nat) : Int) from rfl, rput (by omega) (hl _ (List.getElem_mem hj)) (by rw [List.length_append]; omega)]
    simp only [Option.bind_some]
    rw [rput (by omega) (u64_in _) (by rw [List.length_append, List.length_append, le_len]; omega)]
    simp only [Option.bind_some]
    rw [wsi (by omega), take_flat _ _ hj, List.append_assoc, List.append_assoc]
    rfl
  · unfold R9_2 Q9_2
    simp only []
    rw [bif_f (decide_eq_false (by omega)), List.take_length]
theorem r_tiers {b : List Int} {i : Nat} (hi : i < scales.length) (h : b.length + scales[i].length * 16 ≤ 140737488355328) : itrs R9_6 ((mode, scale, sizes, consts, scales, code, ()), b, (i : Int), 0, ()) = some ((mode, scale, sizes, consts, scales, code, ()), b ++ scales[i].flatMap encTier, (i : Int), ()) := by
  refine itrs_seq (fun j => ((mode, scale, sizes, consts, scales, code, ()), b ++ (scales[i].take j).flatMap encTier, (i : Int), (j : Int), ())) scales[i].length (by simp) (fun j hj => ?_) ?_ (by omega)
  · have hj2 : ((scales[i].take j).flatMap encTier).length ≤ j * 16 := Nat.le_trans (flat_len (scales[i].take j) fun x _ => by simp [encTier, le_len]) (Nat.mul_le_mul_right _ (by simp; omega))
    unfold R9_6 Q9_6
    simp only []
    rw [at_get hi]
    simp only [Option.bind_some]
    rw [bif_t (decide_eq_true (by omega)), at_get hj]
    simp only [Option.bind_some]
    rw [wu, wu, show scales[i][j].1 % 18446744073709551616 = u64 scales[i][j].1 from rfl, show scales[i][j].2 % 18446744073709551616 = u64 scales[i][j].2 from rfl, show (8 : Int) = ((8 : Nat) : Int) from rfl, rput (by omega) (u64_in _) (by rw [List.length_append]; omega)]
    simp only [Option.bind_some]
    rw [rput (by omega) (u64_in _) (by rw [List.length_append, List.length_append, le_len]; omega)]
    simp only [Option.bind_some]
    rw [wsi (by omega), take_flat _ _ hj, List.append_assoc, List.append_assoc]
    rfl
  · unfold R9_6 Q9_6
    simp only []
    rw [at_get hi]
    simp only [Option.bind_some]
    rw [bif_f (decide_eq_false (by omega)), List.take_length]
theorem r_scales {b : List Int} (hl : ∀ t ∈ scales, t.length ≤ 16) (h : b.length + scales.length * 257 ≤ 140737488355328) : itrs R9_4 ((mode, scale, sizes, consts, scales, code, ()), b, 0, ()) = some ((mode, scale, sizes, consts, scales, code, ()), b ++ scales.flatMap encTiers, ()) := by
  refine itrs_seq (fun j => ((mode, scale, sizes, consts, scales, code, ()), b ++ (scales.take j).flatMap encTiers, (j : Int), ())) scales.length (by simp) (fun j hj => ?_) ?_ (by omega)
  · have hj2 : ((scales.take j).flatMap encTiers).length ≤ j * 257 := Nat.le_trans (flat_len (scales.take j) fun x hx => encTiers_len (hl x (List.mem_of_mem_take hx))) (Nat.mul_le_mul_right _ (by simp; omega))
    have ht := hl _ (List.getElem_mem hj)
    unfold R9_4 Q9_4
    simp only []
    rw [bif_t (decide_eq_true (by omega)), at_get hj]
    simp only [Option.bind_some]
    rw [wui (n := (scales[j].length : Int)) (by omega)]
    have p1 := rput (b := b ++ (scales.take j).flatMap encTiers) (n := (scales[j].length : Int)) (K := 1) (by omega) (by omega) (by rw [List.length_append]; omega)
    rw [show (1 : Int) = ((1 : Nat) : Int) from rfl, p1]
    simp only [Option.bind_some]
    rw [r_tiers mode scale sizes consts scales code hj (by simp only [List.length_append, le_len]; omega)]
    simp only [Option.bind_some]
    rw [wsi (by omega), take_flat _ _ hj]
    simp [encTiers, le]
  · unfold R9_4 Q9_4
    simp only []
    rw [bif_f (decide_eq_false (by omega)), List.take_length]
theorem r_code {b : List Int} (h : b.length + code.length * 5 ≤ 140737488355328) : itrs R9_8 ((mode, scale, sizes, consts, scales, code, ()), b, 0, ()) = some (b ++ code.flatMap encInstr, ()) := by
  refine itrs_seq (fun j => ((mode, scale, sizes, consts, scales, code, ()), b ++ (code.take j).flatMap encInstr, (j : Int), ())) code.length (by simp) (fun j hj => ?_) ?_ (by omega)
  · have hj2 : ((code.take j).flatMap encInstr).length ≤ j * 5 := Nat.le_trans (flat_len (code.take j) fun x _ => by simp [encInstr, le_len]) (Nat.mul_le_mul_right _ (by simp; omega))
    unfold R9_8 Q9_8
    simp only []
    rw [bif_t (decide_eq_true (by omega)), at_get hj]
    simp only [Option.bind_some]
    rw [wu, wu, wu, show code[j].1 % 18446744073709551616 = u64 code[j].1 from rfl, show code[j].2.1 % 18446744073709551616 = u64 code[j].2.1 from rfl, show code[j].2.2 % 18446744073709551616 = u64 code[j].2.2 from rfl]
    have p1 := rput (b := b ++ (code.take j).flatMap encInstr) (n := u64 code[j].1) (K := 1) (by omega) (u64_in _) (by rw [List.length_append]; omega)
    rw [show (1 : Int) = ((1 : Nat) : Int) from rfl, p1]
    simp only [Option.bind_some]
    rw [show (2 : Int) = ((2 : Nat) : Int) from rfl, rput (by omega) (u64_in _) (by simp only [List.length_append, le_len]; omega)]
    simp only [Option.bind_some]
    rw [rput (by omega) (u64_in _) (by simp only [List.length_append, le_len]; omega)]
    simp only [Option.bind_some]
    rw [wsi (by omega), take_flat _ _ hj]
    simp [encInstr]
  · unfold R9_8 Q9_8
    simp only []
    rw [bif_f (decide_eq_false (by omega)), List.take_length]
end
end Go.Proofs.Ytikmbcpglmcefaa.E
namespace Go.Proofs.Ytikmbcpglmcefaa.E
open Go
set_option linter.unusedVariables false
set_option maxRecDepth 100000
theorem bif_zero {c : Bool} {a b : Int} (ha : a ≠ 0) (h : (bif c then a else b) = 0) : c = false ∧ b = 0 := by
  cases c with
  | true => exact absurd h ha
  | false => exact ⟨rfl, h⟩
theorem tiersOk_len {l : List (Int × Int)} (h : tiersOk l = true) : l.length ≤ 16 := by
  unfold tiersOk at h
  cases h1 : decide ((l.length : Int) < 1) with
  | true => rw [h1] at h; cases h
  | false =>
    rw [h1] at h
    cases h2 : decide ((l.length : Int) > 16) with
    | true => rw [h2] at h; cases h
    | false =>
      have := of_decide_eq_false h2
      omega
structure Fit (p : Prg) : Prop where
  a : p.2.2.1.length ≤ 4
  b : p.2.2.2.1.length ≤ 1024
  c : p.2.2.2.2.1.length ≤ 1024
  d : p.2.2.2.2.2.length ≤ 8192
  e : ∀ l ∈ p.2.2.2.2.1, l.length ≤ 16
theorem chk_fit {p : Prg} (h : chk p = 0) : Fit p := by
  unfold chk at h
  obtain ⟨_, h⟩ := bif_zero (by decide) h
  obtain ⟨_, h⟩ := bif_zero (by decide) h
  obtain ⟨_, h⟩ := bif_zero (by decide) h
  obtain ⟨_, h⟩ := bif_zero (by decide) h
  obtain ⟨_, h⟩ := bif_zero (by decide) h
  obtain ⟨ha, h⟩ := bif_zero (by decide) h
  obtain ⟨_, h⟩ := bif_zero (by decide) h
  obtain ⟨hb, h⟩ := bif_zero (by decide) h
  obtain ⟨hc, h⟩ := bif_zero (by decide) h
  obtain ⟨hd, h⟩ := bif_zero (by decide) h
  obtain ⟨he, h⟩ := bif_zero (by decide) h
  have ha := of_decide_eq_false ha
  have hb := of_decide_eq_false hb
  have hc := of_decide_eq_false hc
  have hd := of_decide_eq_false hd
  refine ⟨by omega, by omega, by omega, by omega, fun l hl => ?_⟩
  obtain ⟨j, hj, rfl⟩ := List.getElem_of_mem hl
  rw [List.any_eq_false] at he
  have := he j (by rw [List.mem_range'_1]; omega)
  rw [getD_at hj] at this
  exact tiersOk_len (by simpa using this)
def encans (p : Prg) : List Int × Int × Unit := bif chk p != 0 then ([], chk p, ()) else (encB p, 0, ())
def Los (p : Prg) : Prop := ∀ w ∈ p.2.2.2.1, 0 ≤ w.2 ∧ w.2 ≤ 18446744073709551615
theorem eEncode {p : Prg} (hp : Small p) (hw : Los p) : N8 (p, ()) = some (encans p) := by
  have hc := echeck hp
  have hf := chk_fit (p := p)
  unfold encans encB headB
  generalize chk p = e at *
  obtain ⟨mode, scale, sizes, consts, scales, code⟩ := p
  unfold N8 M8
  simp only []
  rw [hc]
  simp only [Option.bind_some]
  by_cases h0 : e = 0
  · obtain ⟨fa, fb, fc, fd, fe⟩ := hf h0
    simp only at fa fb fc fd fe
    subst h0
    simp only [bne_self_eq_false, cond_false]
    have s1 := flat_len (f := encSize) (m := 8) sizes fun x _ => by simp [encSize, le_len]
    have s2 := flat_len (f := encWide) (m := 16) consts fun x _ => by simp [encWide, le_len]
    have s3 := flat_len (f := encTiers) (m := 257) scales fun x hx => encTiers_len (fe x hx)
    rw [e_sizes _ (by simp; omega)]
    simp only [Option.bind_some]
    rw [wui (n := (consts.length : Int)) (by omega), show (2 : Int) = ((2 : Nat) : Int) from rfl, eput (by omega) (by omega) (by simp only [List.length_append, List.length_cons, List.length_nil]; omega)]
    simp only [Option.bind_some]
    rw [e_consts _ hw (by simp only [List.length_append, List.length_cons, List.length_nil, le_len]; omega)]
    simp only [Option.bind_some]
    rw [wui (n := (scales.length : Int)) (by omega), eput (by omega) (by omega) (by simp only [List.length_append, List.length_cons, List.length_nil, le_len]; omega)]
    simp only [Option.bind_some]
    rw [e_scales _ fe (by simp only [List.length_append, List.length_cons, List.length_nil, le_len]; omega)]
    simp only [Option.bind_some]
    rw [wui (n := (code.length : Int)) (by omega), eput (by omega) (by omega) (by simp only [List.length_append, List.length_cons, List.length_nil, le_len]; omega)]
    simp only [Option.bind_some]
    rw [e_code (by simp only [List.length_append, List.length_cons, List.length_nil, le_len]; omega)]
    simp only [Option.bind_some, w8]
    rfl
  · have hb : (e != 0) = true := by simpa using h0
    rw [hb]
    rfl
theorem rEncode {p : Prg} (hp : Small p) (hw : Los p) : N9 (p, ()) = some (encans p) := by
  have hc := rCheck hp
  have hf := chk_fit (p := p)
  unfold encans encB headB
  generalize chk p = e at *
  obtain ⟨mode, scale, sizes, consts, scales, code⟩ := p
  unfold N9 M9
  simp only []
  rw [hc]
  simp only [Option.bind_some]
  by_cases h0 : e = 0
  · obtain ⟨fa, fb, fc, fd, fe⟩ := hf h0
    simp only at fa fb fc fd fe
    subst h0
    simp only [bne_self_eq_false, cond_false]
    have s1 := flat_len (f := encSize) (m := 8) sizes fun x _ => by simp [encSize, le_len]
    have s2 := flat_len (f := encWide) (m := 16) consts fun x _ => by simp [encWide, le_len]
    have s3 := flat_len (f := encTiers) (m := 257) scales fun x hx => encTiers_len (fe x hx)
    rw [r_sizes _ _ _ _ _ _ (by simp only [List.length_cons, List.length_nil]; omega)]
    simp only [Option.bind_some]
    rw [wui (n := (consts.length : Int)) (by omega), show (2 : Int) = ((2 : Nat) : Int) from rfl, rput (by omega) (by omega) (by simp only [List.length_append, List.length_cons, List.length_nil]; omega)]
    simp only [Option.bind_some]
    rw [r_consts _ _ _ _ _ _ hw (by simp only [List.length_append, List.length_cons, List.length_nil, le_len]; omega)]
    simp only [Option.bind_some]
    rw [wui (n := (scales.length : Int)) (by omega), rput (by omega) (by omega) (by simp only [List.length_append, List.length_cons, List.length_nil, le_len]; omega)]
    simp only [Option.bind_some]
    rw [r_scales _ _ _ _ _ _ fe (by simp only [List.length_append, List.length_cons, List.length_nil, le_len]; omega)]
    simp only [Option.bind_some]
    rw [wui (n := (code.length : Int)) (by omega), rput (by omega) (by omega) (by simp only [List.length_append, List.length_cons, List.length_nil, le_len]; omega)]
    simp only [Option.bind_some]
    rw [r_code _ _ _ _ _ _ (by simp only [List.length_append, List.length_cons, List.length_nil, le_len]; omega)]
    simp only [Option.bind_some, w8]
  · have hb : (e != 0) = true := by simpa using h0
    rw [hb]
    rfl
end Go.Proofs.Ytikmbcpglmcefaa.E
namespace Go.Proofs.Ytikmbcpglmcefaa.E
open Go
set_option linter.unusedVariables false
set_option maxRecDepth 100000
theorem awake_yes : N7 () = some (true, ()) := by kernel_rfl
theorem W_small {p : Prg} (h : W27 p) : Small p ∧ Los p := by
  obtain ⟨_, _, ⟨h1, _⟩, ⟨h2, h2'⟩, ⟨h3, h3'⟩, ⟨h4, _⟩⟩ := h
  have b1 : Program.bytesOf Try.prog 2 = 8 := by kernel_rfl
  have b2 : Program.bytesOf Try.prog 43 = 16 := by kernel_rfl
  have b3 : Program.bytesOf Try.prog 48 = 24 := by kernel_rfl
  have b4 : Program.bytesOf Try.prog 45 = 24 := by kernel_rfl
  have b5 : Program.bytesOf Try.prog 50 = 16 := by kernel_rfl
  rw [b1] at h1
  rw [b2] at h2
  rw [b3] at h3
  rw [b4] at h4
  refine ⟨⟨by omega, by omega, by omega, by omega, fun l hl => ?_⟩, fun w hw => (h2' w hw).2⟩
  have := (h3' l hl).1
  rw [b5] at this
  omega
theorem pureIsaBytes : PIsaBytes := by
  intro p hp
  obtain ⟨h1, h2⟩ := W_small hp
  have e1 := eEncode h1 h2
  have e2 := rEncode h1 h2
  generalize encans p = x at *
  obtain ⟨mode, scale, sizes, consts, scales, code⟩ := p
  obtain ⟨x0, x1, ⟨⟩⟩ := x
  unfold N3 M3
  simp only []
  rw [awake_yes]
  simp only [Option.bind_some, Bool.not_true, cond_false]
  rw [e1]
  simp only [Option.bind_some]
  rw [e2]
  simp only [Option.bind_some, beq_self_eq_true, cond_true]
end Go.Proofs.Ytikmbcpglmcefaa.E
namespace Go.Proofs.Ytikmbcpglmcefaa.E.Row
open Go Go.ChangeShapes Go.WideShapes Go.ChangeAt Go.RowKit Go.Proofs.Ytikmbcpglmcefaa
set_option linter.unusedVariables false
set_option maxRecDepth 100000
theorem own : ownKnob Try.prog.godebug = none := by kernel_rfl
theorem laidOut : laidOutB Try.prog = true := by kernel_rfl
theorem came22 : Came κ Try.prog 22 (.sl (τ := τ) 2) (fun a : (List Int) => (List.length a * Program.bytesOf Try.prog 2 ≤ 140737488351232 ∧ ∀ x ∈ a, (-9223372036854775808 ≤ x ∧ x ≤ 9223372036854775807))) := Came.slice (κ := κ) (e := 2) (Q := fun x : Int => (-9223372036854775808 ≤ x ∧ x ≤ 9223372036854775807)) Try.underlying22 (by kernel_rfl) (by kernel_rfl) rfl (show Came κ Try.prog 2 (κ 2) (fun x : Int => (-9223372036854775808 ≤ x ∧ x ≤ 9223372036854775807)) from (Came.i64 Try.underlying2))
theorem came43 : Came κ Try.prog 43 ((.pair (.int .i64) (.int .u64)) : K τ (Int × Int)) W43 := Came.struct Try.underlying43 (by kernel_rfl) (CameFs.cons (o1 := 1) (Q := fun x : Int => (-9223372036854775808 ≤ x ∧ x ≤ 9223372036854775807)) rfl (by kernel_rfl) rfl (Came.i64 Try.underlying2) (CameFs.one (Q := fun x : Int => (0 ≤ x ∧ x ≤ 18446744073709551615)) rfl (by kernel_rfl) (Came.u64 Try.underlying41)))
theorem came23 : Came κ Try.prog 23 (.sl (τ := τ) 43) (fun a : (List (Int × Int)) => (List.length a * Program.bytesOf Try.prog 43 ≤ 140737488351232 ∧ ∀ x ∈ a, W43 x)) := Came.slice (κ := κ) (e := 43) (Q := fun x : (Int × Int) => W43 x) Try.underlying23 (by kernel_rfl) (by kernel_rfl) rfl (show Came κ Try.prog 43 (κ 43) (fun x : (Int × Int) => W43 x) from came43)
theorem came50 : Came κ Try.prog 50 ((.pair (.int .i64) (.int .i64)) : K τ (Int × Int)) W50 := Came.struct Try.underlying50 (by kernel_rfl) (CameFs.cons (o1 := 1) (Q := fun x : Int => (-9223372036854775808 ≤ x ∧ x ≤ 9223372036854775807)) rfl (by kernel_rfl) rfl (Came.i64 Try.underlying2) (CameFs.one (Q := fun x : Int => (-9223372036854775808 ≤ x ∧ x ≤ 9223372036854775807)) rfl (by kernel_rfl) (Came.i64 Try.underlying2)))
theorem came48 : Came κ Try.prog 48 (.sl (τ := τ) 50) (fun a : (List (Int × Int)) => (List.length a * Program.bytesOf Try.prog 50 ≤ 140737488351232 ∧ ∀ x ∈ a, W50 x)) := Came.slice (κ := κ) (e := 50) (Q := fun x : (Int × Int) => W50 x) Try.underlying48 (by kernel_rfl) (by kernel_rfl) rfl (show Came κ Try.prog 50 (κ 50) (fun x : (Int × Int) => W50 x) from came50)
theorem came24 : Came κ Try.prog 24 (.sl (τ := τ) 48) (fun a : (List (List (Int × Int))) => (List.length a * Program.bytesOf Try.prog 48 ≤ 140737488351232 ∧ ∀ x ∈ a, (List.length x * Program.bytesOf Try.prog 50 ≤ 140737488351232 ∧ ∀ x' ∈ x, W50 x'))) := Came.slice (κ := κ) (e := 48) (Q := fun x : (List (Int × Int)) => (List.length x * Program.bytesOf Try.prog 50 ≤ 140737488351232 ∧ ∀ x' ∈ x, W50 x')) Try.underlying24 (by kernel_rfl) (by kernel_rfl) rfl (show Came κ Try.prog 48 (κ 48) (fun x : (List (Int × Int)) => (List.length x * Program.bytesOf Try.prog 50 ≤ 140737488351232 ∧ ∀ x' ∈ x, W50 x')) from came48)
theorem came45 : Came κ Try.prog 45 ((.pair (.int .i64) (.pair (.int .i64) (.int .i64))) : K τ (Int × (Int × Int))) W45 := Came.struct Try.underlying45 (by kernel_rfl) (CameFs.cons (o1 := 1) (Q := fun x : Int => (-9223372036854775808 ≤ x ∧ x ≤ 9223372036854775807)) rfl (by kernel_rfl) rfl (Came.i64 Try.underlying3) (CameFs.cons (o1 := 2) (Q := fun x : Int => (-9223372036854775808 ≤ x ∧ x ≤ 9223372036854775807)) rfl (by kernel_rfl) rfl (Came.i64 Try.underlying3) (CameFs.one (Q := fun x : Int => (-9223372036854775808 ≤ x ∧ x ≤ 9223372036854775807)) rfl (by kernel_rfl) (Came.i64 Try.underlying3))))
theorem came25 : Came κ Try.prog 25 (.sl (τ := τ) 45) (fun a : (List (Int × (Int × Int))) => (List.length a * Program.bytesOf Try.prog 45 ≤ 140737488351232 ∧ ∀ x ∈ a, W45 x)) := Came.slice (κ := κ) (e := 45) (Q := fun x : (Int × (Int × Int)) => W45 x) Try.underlying25 (by kernel_rfl) (by kernel_rfl) rfl (show Came κ Try.prog 45 (κ 45) (fun x : (Int × (Int × Int)) => W45 x) from came45)
theorem came27 : Came κ Try.prog 27 ((.pair (.int .i64) (.pair (.int .i64) (.pair (.sl (τ := τ) 2) (.pair (.sl (τ := τ) 43) (.pair (.sl (τ := τ) 48) (.sl (τ := τ) 45)))))) : K τ (Int × (Int × ((List Int) × ((List (Int × Int)) × ((List (List (Int × Int))) × (List (Int × (Int × Int))))))))) W27 := Came.struct Try.underlying27 (by kernel_rfl) (CameFs.cons (o1 := 1) (Q := fun x : Int => (-9223372036854775808 ≤ x ∧ x ≤ 9223372036854775807)) rfl (by kernel_rfl) rfl (Came.i64 Try.underlying3) (CameFs.cons (o1 := 2) (Q := fun x : Int => (-9223372036854775808 ≤ x ∧ x ≤ 9223372036854775807)) rfl (by kernel_rfl) rfl (Came.i64 Try.underlying3) (CameFs.cons (o1 := 3) (Q := fun x : (List Int) => (List.length x * Program.bytesOf Try.prog 2 ≤ 140737488351232 ∧ ∀ x' ∈ x, (-9223372036854775808 ≤ x' ∧ x' ≤ 9223372036854775807))) rfl (by kernel_rfl) rfl came22 (CameFs.cons (o1 := 4) (Q := fun x : (List (Int × Int)) => (List.length x * Program.bytesOf Try.prog 43 ≤ 140737488351232 ∧ ∀ x' ∈ x, W43 x')) rfl (by kernel_rfl) rfl came23 (CameFs.cons (o1 := 5) (Q := fun x : (List (List (Int × Int))) => (List.length x * Program.bytesOf Try.prog 48 ≤ 140737488351232 ∧ ∀ x' ∈ x, (List.length x' * Program.bytesOf Try.prog 50 ≤ 140737488351232 ∧ ∀ x'' ∈ x', W50 x''))) rfl (by kernel_rfl) rfl came24 (CameFs.one (Q := fun x : (List (Int × (Int × Int))) => (List.length x * Program.bytesOf Try.prog 45 ≤ 140737488351232 ∧ ∀ x' ∈ x, W45 x')) rfl (by kernel_rfl) came25))))))
theorem lifted (os : Os) (started : os.Started) (H : Type) (enc : TypeId × Value → H) :
    ReturnsInHanded {} Try.checked os 3 .any (Rows.isaBytesSpec.pre6 enc Try.prog Try.f3 Rows.isaBytesRow.domain false) (Rows.isaBytesSpec.post enc Try.prog Try.f3 false true false false) := by
  refine returnsInHanded_of_change_sized (C := Try.checked) own started (by kernel_rfl) Try.func3
    (ChangeSpec.witness6 (enc := enc) (C := Try.checked) false ⟨#[], #[(.agg #[(.int .i64 0), (.int .i64 0), (.slice none 0 0), (.slice none 0 0), (.slice none 0 0), (.slice none 0 0)])], []⟩ 8 (by kernel_rfl) (by kernel_rfl) (by kernel_rfl) (by kernel_rfl)) ?_
  intro W base args ds gs before hval0 hW hcnd hsz0 _
  have hsz : (DataW.weightsEach Try.prog (Try.f3.params.toList ++ Rows.isaBytesSpec.plain.varTypes Try.prog) (ds ++ gs)).all (· ≤ reachBytes) = true := hsz0
  have hval : ∀ (j : Nat) t v, Try.f3.params[j]? = some t → args[j]? = some v → Value.okWide Try.prog W .any base t v := hval0
  have hW' := hW
  obtain ⟨p, q, hA0, hV, rfl, hfz, hnd⟩ := hW
  have hA : DataW.TrodAll enc Try.prog W 0 (fun _ => true) true Try.f3.params.toList args.toList ds p := hA0
  rw [Try.params3] at hA hval hsz
  obtain ⟨v0, vs0, d0, ds0, p0, q0, hargs, rfl, rfl, h0, r0⟩ := trodAll_cons hA
  obtain ⟨rfl, rfl, rfl⟩ := trodAll_nil r0
  obtain rfl : args = #[v0] := by cases args; simp_all
  obtain ⟨rfl, rfl⟩ := trodVars_none hV
  have hwt : ∀ (j : Nat) t d, [27][j]? = some t → [d0][j]? = some d → ∀ n ∈ DataW.weights Try.prog t d, n ≤ reachBytes := fun j t d h1 h2 n hn => by
    have := List.all_eq_true.1 hsz n (weights_each (j := j) (by simpa using (List.getElem?_append_left (l₂ := Rows.isaBytesSpec.plain.varTypes Try.prog) (List.getElem?_eq_some_iff.1 h1).1).trans h1) (by simpa using h2) n hn)
    simpa using this
  have lt0 : ∀ x ∈ p0, x.block < W.heap.size := by obtain ⟨m, hm⟩ := h0; exact DataW.trod_lt m _ _ _ hm
  obtain ⟨a0, e0, y0⟩ := arg_agg Try.underlying27 rfl came27 (hval 0 27 v0 rfl rfl) h0 (hwt 0 27 d0 rfl rfl)
  have hp : N3 (a0, ()) = some (true, ()) := pureIsaBytes a0 y0
  refine (law_calls (i := i3) (n := N3) (F := Try.f3) (code := bodyOf Try.f3) s3 (by kernel_rfl) Try.func3 (by kernel_rfl) (by kernel_rfl) hp (argsK_cons e0 argsK_nil)).mono fun e W' ⟨he, bel⟩ => ?_
  subst he
  exact ⟨_, rfl, _, _, _, [], _, [], hW', trodAll_mk1 (shut_bool Try.underlying4 _), (trodAll_cons_mk (Below.trod laidOut (by kernel_rfl) (of_decide_eq_true (by kernel_rfl)) h0 bel lt0) trodAll_mk0), rfl, bel.frame _, fun h => by cases h⟩
theorem over : Rows.isaBytesRow.holds Try.pinned (OpenSpec.ofChange Rows.isaBytesSpec) :=
  OpenClaim.holds_of_wide 3 Try.f3 rfl rfl rfl rfl rfl rfl rfl ⟨rfl, rfl, rfl, rfl, rfl⟩ rfl rfl rfl rfl rfl (by kernel_rfl) Try.func3 (by kernel_rfl)
    (of_decide_eq_true (by kernel_rfl)) (by unfold Func.isWrapper; first | (rw [if_pos (by decide +kernel)]; kernel_rfl) | (rw [if_neg (by decide +kernel)]; exact ⟨rfl, rfl⟩))
    (fun os started H enc _ => lifted os started H enc)
theorem proved : Rows.IsaBytesSaid := over
end Go.Proofs.Ytikmbcpglmcefaa.E.Row
namespace Go.Proofs.Ytikmbcpglmcefaa
/-- The row, under a short name, for the claim. -/
theorem isaBytes_holds : Rows.IsaBytesSaid := Ytikmbcpglmcefaa.E.Row.proved
#print axioms isaBytes_holds
end Go.Proofs.Ytikmbcpglmcefaa
