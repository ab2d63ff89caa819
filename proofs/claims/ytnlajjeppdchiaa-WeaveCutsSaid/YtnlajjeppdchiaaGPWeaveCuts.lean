/- The statement WeaveCuts for every input: the plain facts on the functions' results, and the row. No condition. -/
import Derived.Test.YtnlajjeppdchiaaGF0
import Derived.Test.YtnlajjeppdchiaaGE1
import Derived.Test.YtnlajjeppdchiaaRows
import Derived.Test.YtnlajjeppdchiaaChecked
namespace Go.Proofs.Ytnlajjeppdchiaa.E
open Go
def W39 (a : (Int × Int)) : Prop := (-9223372036854775808 ≤ a.1 ∧ a.1 ≤ 9223372036854775807) ∧ (0 ≤ a.2 ∧ a.2 ≤ 18446744073709551615)
def W41 (a : ((Int × Int) × ((Int × Int) × (Int × Int)))) : Prop := W39 a.1 ∧ W39 a.2.1 ∧ W39 a.2.2
def W43 (a : (Int × ((Int × Int) × ((Int × Int) × (Int × Int))))) : Prop := (-9223372036854775808 ≤ a.1 ∧ a.1 ≤ 9223372036854775807) ∧ W41 a.2
def W27 (a : (Int × (Int × (List (Int × ((Int × Int) × ((Int × Int) × (Int × Int)))))))) : Prop := (-9223372036854775808 ≤ a.1 ∧ a.1 ≤ 9223372036854775807) ∧ (-9223372036854775808 ≤ a.2.1 ∧ a.2.1 ≤ 9223372036854775807) ∧ (List.length a.2.2 * Program.bytesOf Try.prog 43 ≤ 140737488351232 ∧ ∀ x ∈ a.2.2, W43 x)
def PWeaveCuts : Prop := ∀ (a0 : (List (Int × (Int × (List (Int × ((Int × Int) × ((Int × Int) × (Int × Int))))))))), (List.length a0 * Program.bytesOf Try.prog 27 ≤ 140737488351232 ∧ ∀ x ∈ a0, W27 x) → N4 (a0, ()) = some (true, ())
end Go.Proofs.Ytnlajjeppdchiaa.E
namespace Go.Proofs.Ytnlajjeppdchiaa.E.Hp
open Go
set_option linter.unusedVariables false
set_option linter.unusedSectionVars false
set_option linter.unusedSimpArgs false
theorem getD_set {γ : Type} {l : List γ} {i j : Nat} {a z : γ} (hi : i < l.length) : (l.set i a).getD j z = if j = i then a else l.getD j z := by
  rw [List.getD_eq_getElem?_getD, List.getD_eq_getElem?_getD, List.getElem?_set]
  by_cases h : i = j
  · subst h
    simp [hi]
  · rw [if_neg h, if_neg (fun e => h e.symm)]
theorem getD_get {γ : Type} {l : List γ} {j : Nat} {z : γ} (h : j < l.length) : l.getD j z = l[j] := by
  rw [List.getD_eq_getElem?_getD, List.getElem?_eq_getElem h]
  rfl
section
variable {α : Type} [DecidableEq α] {z : α}
def swp (z : α) (l : List α) (i j : Nat) : List α := (l.set i (l.getD j z)).set j (l.getD i z)
theorem swp_len (l : List α) (i j : Nat) : (swp z l i j).length = l.length := by simp [swp]
theorem swp_get {l : List α} {i j k : Nat} (hi : i < l.length) (hj : j < l.length) : (swp z l i j).getD k z = if k = j then l.getD i z else if k = i then l.getD j z else l.getD k z := by
  unfold swp
  rw [getD_set (by simpa using hj), getD_set hi]
theorem swp_perm {l : List α} {i j : Nat} (hi : i < l.length) (hj : j < l.length) : (swp z l i j).Perm l := by
  rw [List.perm_iff_count]
  intro a
  unfold swp
  rw [getD_get hj, getD_get hi, List.count_set (by simpa using hj), List.count_set hi, List.getElem_set]
  have h1 : (if l[i] == a then 1 else 0) ≤ l.count a := by
    split
    · rename_i h
      have : l[i] = a := by simpa using h
      exact List.count_pos_iff.2 (this ▸ List.getElem_mem hi)
    · omega
  by_cases hij : i = j
  · subst hij
    simp only [if_true]
    omega
  · rw [if_neg hij]
    have h2 : (if l[i] == a then 1 else 0) + (if l[j] == a then 1 else 0) ≤ l.count a ∨ ¬ (l[i] == a ∧ l[j] == a) := by
      by_cases hb : (l[i] == a) = true ∧ (l[j] == a) = true
      · refine .inl ?_
        rw [if_pos hb.1, if_pos hb.2]
        have e1 : l[i] = a := by simpa using hb.1
        have e2 : l[j] = a := by simpa using hb.2
        -- two places
        have : ∀ (l : List α) (i j : Nat) (hi : i < l.length) (hj : j < l.length), i < j → l[i] = a → l[j] = a → 2 ≤ l.count a := by
          intro l
          induction l with
          | nil => intro i j hi; simp at hi
          | cons x l ih =>
            intro i j hi hj h1 h2 h3
            cases j with
            | zero => omega
            | succ j =>
              cases i with
              | zero =>
                simp only [List.getElem_cons_zero] at h2
                simp only [List.getElem_cons_succ] at h3
                subst h2
                rw [List.count_cons_self]
                have := List.count_pos_iff.2 (h3 ▸ List.getElem_mem (by simpa using hj : j < l.length))
                omega
              | succ i =>
                have := ih i j (by simpa using hi) (by simpa using hj) (by omega) (by simpa using h2) (by simpa using h3)
                exact Nat.le_trans this (List.count_le_count_cons)
        rcases Nat.lt_or_gt_of_ne hij with h | h
        · exact this l i j hi hj h e1 e2
        · exact this l j i hj hi h e2 e1
      · exact .inr hb
    have h3 : (if l[j] == a then 1 else 0) ≤ l.count a := by
      split
      · rename_i h
        have : l[j] = a := by simpa using h
        exact List.count_pos_iff.2 (this ▸ List.getElem_mem hj)
      · omega
    by_cases ha : (l[i] == a) = true <;> by_cases hb : (l[j] == a) = true <;> simp only [ha, hb, if_true, if_false, Bool.false_eq_true] at h1 h2 h3 ⊢ <;> omega
variable (lt : α → α → Bool)
/-- The order's laws. -/
structure Lw : Prop where
  asym : ∀ a b, lt a b = true → lt b a = false
  neg : ∀ a b c, lt a b = false → lt b c = false → lt a c = false
def Heap (z : α) (l : List α) (n : Nat) : Prop := ∀ c, 0 < c → c < n → lt (l.getD c z) (l.getD ((c - 1) / 2) z) = false
structure UpI (z : α) (l : List α) (j : Nat) : Prop where
  a : ∀ c, 0 < c → c < l.length → c ≠ j → lt (l.getD c z) (l.getD ((c - 1) / 2) z) = false
  b : ∀ c, 0 < c → c < l.length → (c - 1) / 2 = j → 0 < j → lt (l.getD c z) (l.getD ((j - 1) / 2) z) = false
variable {lt} (W : Lw lt)
include W
theorem up_end {l : List α} {j : Nat} (h : UpI lt z l j) (hj : j = 0 ∨ lt (l.getD j z) (l.getD ((j - 1) / 2) z) = false) : Heap lt z l l.length := fun c c0 c1 => by
  by_cases e : c = j
  · subst e
    rcases hj with h | h
    · omega
    · exact h
  · exact h.a c c0 c1 e
theorem up_step {l : List α} {j : Nat} (h : UpI lt z l j) (h0 : 0 < j) (hj : j < l.length) (hl : lt (l.getD j z) (l.getD ((j - 1) / 2) z) = true) : UpI lt z (swp z l ((j - 1) / 2) j) ((j - 1) / 2) := by
  have hi : (j - 1) / 2 < l.length := by omega
  have asy := W.asym _ _ hl
  have ln := swp_len (z := z) l ((j - 1) / 2) j
  refine ⟨fun c c0 c1 ce => ?_, fun c c0 c1 cp i0 => ?_⟩
  · rw [ln] at c1
    rw [swp_get hi hj, swp_get hi hj]
    by_cases k1 : c = j
    · subst k1
      rw [if_pos rfl, if_neg (by omega), if_pos rfl]
      exact asy
    · rw [if_neg k1, if_neg ce]
      by_cases k2 : (c - 1) / 2 = j
      · rw [if_pos k2]
        exact h.b c c0 c1 k2 h0
      · rw [if_neg k2]
        by_cases k3 : (c - 1) / 2 = (j - 1) / 2
        · rw [if_pos k3]
          have := h.a c c0 c1 k1
          rw [k3] at this
          exact W.neg _ _ _ this asy
        · rw [if_neg k3]
          exact h.a c c0 c1 k1
  · rw [ln] at c1
    rw [swp_get hi hj, swp_get hi hj, if_neg (show ¬ ((j - 1) / 2 - 1) / 2 = j by omega), if_neg (show ¬ ((j - 1) / 2 - 1) / 2 = (j - 1) / 2 by omega)]
    have top := h.a ((j - 1) / 2) i0 hi (by omega)
    by_cases k1 : c = j
    · rw [if_pos k1]
      exact top
    · rw [if_neg k1, if_neg (by omega)]
      have := h.a c c0 c1 k1
      rw [cp] at this
      exact W.neg _ _ _ this top
omit W in
theorem push_start {l : List α} {x : α} (h : Heap lt z l l.length) : UpI lt z (l ++ [x]) l.length := by
  have g : ∀ c, c < l.length → (l ++ [x]).getD c z = l.getD c z := fun c hc => by
    rw [List.getD_eq_getElem?_getD, List.getD_eq_getElem?_getD, List.getElem?_append_left hc]
  refine ⟨fun c c0 c1 ce => ?_, fun c c0 c1 cp j0 => ?_⟩
  · simp only [List.length_append, List.length_singleton] at c1
    rw [g c (by omega), g _ (by omega)]
    exact h c c0 (by omega)
  · simp only [List.length_append, List.length_singleton] at c1
    omega
structure DnI (lt : α → α → Bool) (z : α) (l : List α) (i n : Nat) : Prop where
  a : ∀ c, 0 < c → c < n → (c - 1) / 2 ≠ i → lt (l.getD c z) (l.getD ((c - 1) / 2) z) = false
  b : ∀ c, 0 < c → c < n → (c - 1) / 2 = i → 0 < i → lt (l.getD c z) (l.getD ((i - 1) / 2) z) = false
omit W in
theorem dn_end0 {l : List α} {i n : Nat} (h : DnI lt z l i n) (hi : n ≤ 2 * i + 1) : Heap lt z l n := fun c c0 c1 => h.a c c0 c1 (by omega)
/-- j is the lesser child. -/
def Kid (lt : α → α → Bool) (z : α) (l : List α) (i n j : Nat) : Prop := (j - 1) / 2 = i ∧ 0 < j ∧ j < n ∧ ∀ c, 0 < c → c < n → (c - 1) / 2 = i → c ≠ j → lt (l.getD c z) (l.getD j z) = false
theorem dn_end {l : List α} {i n j : Nat} (h : DnI lt z l i n) (k : Kid lt z l i n j) (hl : lt (l.getD j z) (l.getD i z) = false) : Heap lt z l n := fun c c0 c1 => by
  by_cases e : (c - 1) / 2 = i
  · rw [e]
    by_cases ej : c = j
    · rw [ej]; exact hl
    · exact W.neg _ _ _ (k.2.2.2 c c0 c1 e ej) hl
  · exact h.a c c0 c1 e
theorem dn_step {l : List α} {i n j : Nat} (hn : n ≤ l.length) (h : DnI lt z l i n) (k : Kid lt z l i n j) (hl : lt (l.getD j z) (l.getD i z) = true) : DnI lt z (swp z l i j) j n := by
  obtain ⟨k1, k2, k3, k4⟩ := k
  have hi : i < l.length := by omega
  have hj : j < l.length := by omega
  have asy := W.asym _ _ hl
  refine ⟨fun c c0 c1 ce => ?_, fun c c0 c1 cp j0 => ?_⟩
  · rw [swp_get hi hj, swp_get hi hj]
    by_cases e1 : c = j
    · subst e1
      rw [if_pos rfl, k1, if_neg (by omega), if_pos rfl]
      exact asy
    · rw [if_neg e1, if_neg ce]
      by_cases e2 : c = i
      · subst e2
        rw [if_pos rfl, if_neg (by omega)]
        exact h.b j k2 k3 k1 c0
      · rw [if_neg e2]
        by_cases e3 : (c - 1) / 2 = i
        · rw [if_pos e3]
          exact k4 c c0 c1 e3 e1
        · rw [if_neg e3]
          exact h.a c c0 c1 e3
  · rw [swp_get hi hj, swp_get hi hj, k1, if_neg (by omega), if_neg (by omega), if_neg (by omega), if_pos rfl]
    have := h.a c c0 c1 (by omega)
    rw [cp] at this
    exact this
/-- The first one is the least. -/
theorem heap_least {l : List α} {n : Nat} (h : Heap lt z l n) : ∀ (m c : Nat), c ≤ m → c < n → lt (l.getD c z) (l.getD 0 z) = false
  | m, c, hm, hc => by
    by_cases c0 : c = 0
    · subst c0
      cases e : lt (l.getD 0 z) (l.getD 0 z) with
      | false => rfl
      | true => exact absurd e (by rw [W.asym _ _ e]; decide)
    · have a := h c (by omega) hc
      have b := heap_least h (m - 1) ((c - 1) / 2) (by omega) (by omega)
      exact W.neg _ _ _ a b
termination_by m => m
decreasing_by omega
omit W in
/-- The last one laid to the front, ahead of going down. -/
theorem pop_start {l : List α} {n : Nat} (hl : l.length = n + 1) (h : Heap lt z l (n + 1)) : DnI lt z (swp z l 0 n) 0 n := by
  refine ⟨fun c c0 c1 ce => ?_, fun c c0 c1 cp j0 => by omega⟩
  rw [swp_get (by omega) (by omega), swp_get (by omega) (by omega), if_neg (by omega), if_neg (by omega), if_neg (by omega), if_neg (by omega)]
  exact h c c0 (by omega)
end
end Go.Proofs.Ytnlajjeppdchiaa.E.Hp
namespace Go.Proofs.Ytnlajjeppdchiaa.E
open Go
set_option linter.unusedVariables false
set_option linter.unusedSimpArgs false
set_option maxRecDepth 100000
open Hp (swp swp_len swp_get swp_perm getD_get)
abbrev Qe : Type := Int × Int
def qlt (a b : Qe) : Bool := decide (a.1 < b.1)
theorem qlw : Hp.Lw qlt := ⟨fun a b h => by
  have := of_decide_eq_true h
  exact decide_eq_false (by omega), fun a b c h1 h2 => by
  have := of_decide_eq_false h1
  have := of_decide_eq_false h2
  exact decide_eq_false (by omega)⟩
abbrev qz : Qe := (0, 0)
abbrev QHeap (l : List Qe) : Prop := Hp.Heap qlt qz l l.length
theorem inb {i n : Nat} (h : i < n) : (decide (0 ≤ (i : Int)) && decide ((i : Int) < (n : Int))) = true := by rw [decide_eq_true (show 0 ≤ (i : Int) by omega), decide_eq_true (show (i : Int) < (n : Int) by omega)]; rfl
theorem qLess {l : List Qe} {i j : Nat} (hi : i < l.length) (hj : j < l.length) : N67 (l, (i : Int), (j : Int), ()) = some (qlt (l.getD i qz) (l.getD j qz), l, ()) := by
  unfold N67 M67
  simp only []
  rw [inb hi, inb hj]
  simp only [Int.toNat_natCast, List.getElem?_eq_getElem hi, List.getElem?_eq_getElem hj, Option.bind_some, cond_true]
  rw [getD_get hi, getD_get hj]
  rfl
theorem qSwap {l : List Qe} {i j : Nat} (hi : i < l.length) (hj : j < l.length) : N70 (l, (i : Int), (j : Int), ()) = some (swp qz l i j, ()) := by
  unfold N70 M70
  simp only [List.length_set]
  rw [inb hi, inb hj]
  simp only [Int.toNat_natCast, List.getElem?_eq_getElem hi, List.getElem?_eq_getElem hj, Option.bind_some, cond_true]
  have h2 : j < (l.set i (l[j].1, l[j].2)).length := by simpa using hj
  rw [List.getElem?_eq_getElem h2]
  simp only [Option.bind_some]
  unfold swp
  rw [getD_get hi, getD_get hj]
theorem qLen (l : List Qe) : N25 (l, ()) = some ((l.length : Int), l, ()) := rfl
theorem qUp : ∀ (m : Nat) (l : List Qe) (j : Nat), j ≤ m → j < l.length → l.length ≤ 1000000000 → Hp.UpI qlt qz l j → ∃ l', itr R34_0 (m + 1) ((l, ()), (j : Int), ()) = some ((l', ()), ()) ∧ QHeap l' ∧ l'.Perm l ∧ l'.length = l.length
  | m, l, j, hm, hj, hl, h => by
    have hp : IntKind.wrap .i64 (Int.tdiv (IntKind.wrap .i64 ((j : Int) - 1)) 2) = (((j - 1) / 2 : Nat) : Int) := by
      rw [wsi (n := (j : Int) - 1) (by omega)]
      by_cases j0 : j = 0
      · subst j0; rfl
      · rw [tdiv_pos (by omega), wsi (by omega)]; omega
    by_cases j0 : j = 0
    · refine ⟨l, ?_, Hp.up_end qlw h (.inl j0), .refl _, rfl⟩
      refine itr_out ?_
      unfold R34_0 Q34_0
      simp only []
      rw [hp, bif_t (show ((((j - 1) / 2 : Nat) : Int) == (j : Int)) = true from by simp; omega)]
    · have hi : (j - 1) / 2 < l.length := by omega
      have hs := qSwap hi hj
      cases hc : qlt (l.getD j qz) (l.getD ((j - 1) / 2) qz) with
      | false =>
        refine ⟨l, ?_, Hp.up_end qlw h (.inr hc), .refl _, rfl⟩
        refine itr_out ?_
        unfold R34_0 Q34_0
        simp only []
        rw [hp, bif_f (show ((((j - 1) / 2 : Nat) : Int) == (j : Int)) = false from by simp; omega), qLess hj hi, hc]
        rfl
      | true =>
        have hr : R34_0 ((l, ()), (j : Int), ()) = some (.inl ((swp qz l ((j - 1) / 2) j, ()), (((j - 1) / 2 : Nat) : Int), ())) := by
          unfold R34_0 Q34_0
          simp only []
          rw [hp, bif_f (show ((((j - 1) / 2 : Nat) : Int) == (j : Int)) = false from by simp; omega), qLess hj hi, hc]
          simp only [Option.bind_some, Bool.not_true, cond_false]
          rw [hs]
          rfl
        have ln := swp_len (z := qz) l ((j - 1) / 2) j
        cases m with
        | zero => omega
        | succ m =>
          obtain ⟨l', e, a, b, c⟩ := qUp m (swp qz l ((j - 1) / 2) j) ((j - 1) / 2) (by omega) (by omega) (by omega) (Hp.up_step qlw h (by omega) hj hc)
          exact ⟨l', by rw [itr_in hr, e], a, b.trans (swp_perm hi hj), by omega⟩
theorem qPush {l : List Qe} {x : Qe} (h : QHeap l) (hl : l.length < 1000000000) : ∃ l', N24 ((l, ()), x, ()) = some ((l', ()), ()) ∧ QHeap l' ∧ l'.Perm (l ++ [x]) ∧ l'.length = l.length + 1 := by
  obtain ⟨x0, x1⟩ := x
  obtain ⟨l', e, a, b, c⟩ := qUp l.length (l ++ [(x0, x1)]) l.length (Nat.le_refl _) (by simp) (by simp; omega) (Hp.push_start h)
  refine ⟨l', ?_, a, b, by rw [c]; simp⟩
  unfold N24 M24 N69 M69
  simp only []
  rw [bif_t (decide_eq_true (by omega))]
  simp only [Option.bind_some]
  rw [qLen]
  simp only [Option.bind_some]
  rw [wsi (by simp; omega), show ((l ++ [(x0, x1)]).length : Int) - 1 = (l.length : Int) from by simp]
  unfold N34 M34
  simp only []
  rw [itrs_of e (by omega)]
  rfl
theorem kid_of {l : List Qe} {i n : Nat} (h1 : 2 * i + 1 < n) : Hp.Kid qlt qz l i n (if 2 * i + 2 < n ∧ qlt (l.getD (2 * i + 2) qz) (l.getD (2 * i + 1) qz) = true then 2 * i + 2 else 2 * i + 1) := by
  split
  · rename_i h
    refine ⟨by omega, by omega, h.1, fun c c0 c1 cp ce => ?_⟩
    rw [show c = 2 * i + 1 from by omega]
    exact qlw.asym _ _ h.2
  · rename_i h
    refine ⟨by omega, by omega, h1, fun c c0 c1 cp ce => ?_⟩
    have ec : c = 2 * i + 2 := by omega
    subst ec
    cases hq : qlt (l.getD (2 * i + 2) qz) (l.getD (2 * i + 1) qz) with
    | false => rfl
    | true => exact absurd ⟨c1, hq⟩ h
theorem qDown (i0 : Int) : ∀ (m : Nat) (l : List Qe) (i n : Nat), n ≤ i + m → n ≤ l.length → l.length ≤ 1000000000 → i ≤ n → Hp.DnI qlt qz l i n → ∃ l' k, itr R35_0 (m + 1) ((l, ()), i0, (n : Int), (i : Int), ()) = some ((l', ()), i0, k, ()) ∧ Hp.Heap qlt qz l' n ∧ l'.Perm l ∧ l'.length = l.length ∧ ∀ c, n ≤ c → l'.getD c qz = l.getD c qz
  | m, l, i, n, hm, hn, hl, hin, h => by
    have p1 : IntKind.wrap .i64 (IntKind.wrap .i64 (2 * (i : Int)) + 1) = ((2 * i + 1 : Nat) : Int) := by
      rw [wsi (n := 2 * (i : Int)) (by omega), wsi (by omega)]; omega
    have p2 : IntKind.wrap .i64 (((2 * i + 1 : Nat) : Int) + 1) = ((2 * i + 2 : Nat) : Int) := by rw [wsi (by omega)]; omega
    by_cases h1 : 2 * i + 1 < n
    rotate_left
    · refine ⟨l, (i : Int), ?_, Hp.dn_end0 h (by omega), .refl _, rfl, fun _ _ => rfl⟩
      refine itr_out ?_
      unfold R35_0 Q35_0
      simp only []
      rw [p1, bif_t (decide_eq_true (by omega))]
    have kid := kid_of (l := l) h1
    have hi : i < l.length := by omega
    have hj1 : 2 * i + 1 < l.length := by omega
    generalize hjv : (if 2 * i + 2 < n ∧ qlt (l.getD (2 * i + 2) qz) (l.getD (2 * i + 1) qz) = true then 2 * i + 2 else 2 * i + 1) = j at kid
    have hj : j < l.length := by have := kid.2.2.1; omega
    have hs := qSwap hi hj
    have hr : R35_0 ((l, ()), i0, (n : Int), (i : Int), ()) = (bif qlt (l.getD j qz) (l.getD i qz) then some (.inl ((swp qz l i j, ()), i0, (n : Int), (j : Int), ())) else some (.inr ((l, ()), i0, (i : Int), ()))) := by
      unfold R35_0 Q35_0
      simp only []
      rw [p1, p2, bif_f (decide_eq_false (by omega)), bif_f (decide_eq_false (by omega))]
      by_cases h2 : 2 * i + 2 < n
      · have hj2 : 2 * i + 2 < l.length := by omega
        rw [bif_t (decide_eq_true (by omega)), qLess hj2 hj1]
        simp only [Option.bind_some]
        cases hq : qlt (l.getD (2 * i + 2) qz) (l.getD (2 * i + 1) qz) with
        | true =>
          rw [if_pos ⟨h2, hq⟩] at hjv
          subst hjv
          simp only [cond_true]
          rw [qLess hj2 hi]
          simp only [Option.bind_some]
          rw [hs]
          cases qlt (l.getD (2 * i + 2) qz) (l.getD i qz) <;> rfl
        | false =>
          rw [if_neg (by rw [hq]; simp)] at hjv
          subst hjv
          simp only [cond_false]
          rw [qLess hj1 hi]
          simp only [Option.bind_some]
          rw [hs]
          cases qlt (l.getD (2 * i + 1) qz) (l.getD i qz) <;> rfl
      · rw [if_neg (by omega)] at hjv
        subst hjv
        rw [bif_f (decide_eq_false (by omega)), qLess hj1 hi]
        simp only [Option.bind_some]
        rw [hs]
        cases qlt (l.getD (2 * i + 1) qz) (l.getD i qz) <;> rfl
    cases hc : qlt (l.getD j qz) (l.getD i qz) with
    | false =>
      rw [hc] at hr
      exact ⟨l, (i : Int), itr_out hr, Hp.dn_end qlw h kid hc, .refl _, rfl, fun _ _ => rfl⟩
    | true =>
      rw [hc] at hr
      have ln := swp_len (z := qz) l i j
      have kj := kid.2.2.1
      have kj1 := kid.1
      have kj0 := kid.2.1
      cases m with
      | zero => omega
      | succ m =>
        obtain ⟨l', k, e, a, b, c, d⟩ := qDown i0 m (swp qz l i j) j n (by omega) (by omega) (by omega) (by omega) (Hp.dn_step qlw hn h kid hc)
        refine ⟨l', k, by rw [itr_in hr, e], a, b.trans (swp_perm hi hj), by omega, fun x hx => ?_⟩
        rw [d x hx, swp_get hi hj, if_neg (by omega), if_neg (by omega)]
theorem qPop {l : List Qe} (h : QHeap l) (h0 : 0 < l.length) (hl : l.length ≤ 1000000000) : ∃ l', N26 ((l, ()), ()) = some (l.getD 0 qz, (l', ()), ()) ∧ QHeap l' ∧ l.Perm (l.getD 0 qz :: l') ∧ l'.length + 1 = l.length ∧ ∀ x ∈ l', (l.getD 0 qz).1 ≤ x.1 := by
  obtain ⟨n, hn⟩ : ∃ n, l.length = n + 1 := ⟨l.length - 1, by omega⟩
  have hh : Hp.Heap qlt qz l (n + 1) := by rw [← hn]; exact h
  have st := Hp.pop_start hn hh
  have ln := swp_len (z := qz) l 0 n
  obtain ⟨l1, k, e, a, b, c, d⟩ := qDown 0 n (swp qz l 0 n) 0 n (by omega) (by omega) (by omega) (by omega) st
  have hl1 : l1.length = n + 1 := by omega
  have last : l1.getD n qz = l.getD 0 qz := by
    rw [d n (Nat.le_refl _), swp_get (by omega) (by omega), if_pos rfl]
  have cut : l1 = l1.take n ++ [l.getD 0 qz] := by
    rw [← last, getD_get (by omega), ← List.take_succ_eq_append_getElem (by omega), List.take_of_length_le (by omega)]
  have lt : (l1.take n).length = n := by rw [List.length_take]; omega
  have pm : l.Perm (l.getD 0 qz :: l1.take n) := by
    have := (swp_perm (z := qz) (show 0 < l.length by omega) (show n < l.length by omega)).symm.trans b.symm
    rw [cut] at this
    exact this.trans (List.perm_append_singleton _ _)
  refine ⟨l1.take n, ?_, ?_, pm, by omega, fun x hx => ?_⟩
  · have s := qSwap (l := l) (i := 0) (j := n) (by omega) (by omega)
    unfold N26 M26
    simp only []
    rw [qLen]
    simp only [Option.bind_some]
    rw [hn, wsi (by omega), show ((n + 1 : Nat) : Int) - 1 = (n : Int) from by omega]
    have s : N70 (l, 0, (n : Int), ()) = _ := s
    rw [s]
    simp only [Option.bind_some]
    have dn : N35 ((swp qz l 0 n, ()), 0, (n : Int), ()) = some (decide (k > 0), (l1, ()), ()) := by
      unfold N35 M35
      simp only []
      have e : itr R35_0 (n + 1) ((swp qz l 0 n, ()), 0, (n : Int), 0, ()) = _ := e
      rw [itrs_of e (by omega)]
      rfl
    rw [dn]
    simp only [Option.bind_some]
    unfold N68 M68
    simp only []
    rw [hl1, wsi (by omega), show ((n + 1 : Nat) : Int) - 1 = (n : Int) from by omega, inb (show n < n + 1 by omega)]
    simp only [cond_true, Option.bind_some, Int.toNat_natCast, Nat.sub_zero]
    rw [List.getElem?_eq_getElem (show n < l1.length by omega)]
    simp only [Option.bind_some]
    rw [bif_t (show (true && decide (0 ≤ (n : Int)) && decide ((n : Int) ≤ ((n + 1 : Nat) : Int))) = true from by rw [decide_eq_true (show 0 ≤ (n : Int) by omega), decide_eq_true (show (n : Int) ≤ ((n + 1 : Nat) : Int) by omega)]; rfl)]
    simp only [Option.bind_some]
    rw [bif_t (show Nat.ble n (n + 1) = true from Nat.ble_eq_true_of_le (by omega))]
    simp only [Option.bind_some]
    rw [← last, getD_get (show n < l1.length by omega)]
  · show Hp.Heap qlt qz (l1.take n) (l1.take n).length
    rw [lt]
    intro x x0 x1
    have g : ∀ y, y < n → (l1.take n).getD y qz = l1.getD y qz := fun y hy => by
      rw [List.getD_eq_getElem?_getD, List.getD_eq_getElem?_getD, List.getElem?_take_of_lt hy]
    rw [g x x1, g _ (by omega)]
    exact a x x0 x1
  · have hm : x ∈ l := pm.symm.subset (List.mem_cons_of_mem _ hx)
    obtain ⟨c, hc, rfl⟩ := List.getElem_of_mem hm
    have := Hp.heap_least qlw h c c (Nat.le_refl _) hc
    rw [getD_get hc] at this
    have := of_decide_eq_false this
    omega
end Go.Proofs.Ytnlajjeppdchiaa.E
namespace Go.Proofs.Ytnlajjeppdchiaa.E
open Go
set_option linter.unusedVariables false
set_option linter.unusedSimpArgs false
set_option maxRecDepth 100000
abbrev Pc : Type := Int × (Int × Int) × (Int × Int) × (Int × Int)
abbrev Tb : Type := Int × Int × List Pc
def fr1 (t : Tb) : List Int := t.2.2.map (·.1)
def froms (ts : List Tb) : List Int := ts.flatMap fr1
/-- The places, each once, rising. -/
structure Cut (S C : List Int) : Prop where
  s : C.Pairwise (· < ·)
  m : ∀ x, x ∈ C ↔ x ∈ S
theorem cut_unique : ∀ (a b : List Int), a.Pairwise (· < ·) → b.Pairwise (· < ·) → (∀ x, x ∈ a ↔ x ∈ b) → a = b
  | [], [], _, _, _ => rfl
  | [], y :: b, _, _, h => by have := (h y).2 (by simp); cases this
  | x :: a, [], _, _, h => by have := (h x).1 (by simp); cases this
  | x :: a, y :: b, ha, hb, h => by
    obtain ⟨ha1, ha2⟩ := List.pairwise_cons.1 ha
    obtain ⟨hb1, hb2⟩ := List.pairwise_cons.1 hb
    have hx := (h x).1 (by simp)
    have hy := (h y).2 (by simp)
    have e : x = y := by
      rcases List.mem_cons.1 hx with e | e
      · exact e
      · rcases List.mem_cons.1 hy with f | f
        · exact f.symm
        · have := hb1 x e
          have := ha1 y f
          omega
    subst e
    rw [cut_unique a b ha2 hb2 fun z => ⟨fun hz => ?_, fun hz => ?_⟩]
    · have := ha1 z hz
      rcases List.mem_cons.1 ((h z).1 (by simp [hz])) with e | e
      · omega
      · exact e
    · have := hb1 z hz
      rcases List.mem_cons.1 ((h z).2 (by simp [hz])) with e | e
      · omega
      · exact e
/-! ### the program -/
def en (p : Pc) : Qe := (p.1, 0)
theorem c_pieces (ts : List Tb) (a b : Int) (ps : List Pc) : ∀ (m j : Nat) (q : List Qe), j + m = ps.length → QHeap q → q.length + m ≤ 1000000 → ps.length ≤ 140737488355328 →
    ∃ q', itr R12_2 (m + 1) ((q, ()), ts, a, b, ps, (ps.length : Int), (j : Int), ()) = some ((q', ()), ts, a, b, ()) ∧ QHeap q' ∧ q'.Perm (q ++ (ps.drop j).map en) ∧ q'.length = q.length + m
  | 0, j, q, hj, hq, hl, hp => by
    refine ⟨q, itr_out ?_, hq, ?_, rfl⟩
    · unfold R12_2 Q12_2
      simp only []
      rw [bif_f (decide_eq_false (by omega))]
    · rw [List.drop_eq_nil_of_le (by omega)]
      simp
  | m + 1, j, q, hj, hq, hl, hp => by
    obtain ⟨q1, e, h1, p1, l1⟩ := qPush (x := en ps[j]) hq (by omega)
    obtain ⟨q', e', h', p', l'⟩ := c_pieces ts a b ps m (j + 1) q1 (by omega) h1 (by omega) hp
    refine ⟨q', ?_, h', ?_, by omega⟩
    · rw [← e']
      refine itr_in ?_
      have hjl : j < ps.length := by omega
      have hg := at_get hjl
      generalize ps[j] = p at *
      obtain ⟨p0, ⟨p1, p2⟩, ⟨p3, p4⟩, p5, p6⟩ := p
      unfold R12_2 Q12_2
      simp only []
      rw [bif_t (decide_eq_true (by omega)), hg]
      simp only [Option.bind_some]
      have e : N24 ((q, ()), (p0, 0), ()) = _ := e
      rw [e]
      simp only [Option.bind_some]
      rw [wsi (by omega)]
      rfl
    · rw [List.drop_eq_getElem_cons (show j < ps.length by omega), List.map_cons]
      refine p'.trans ?_
      refine (p1.append_right _).trans ?_
      rw [List.append_assoc]
      exact .refl _
theorem c_tables (ts : List Tb) (hps : ∀ t ∈ ts, t.2.2.length ≤ 140737488355328) : ∀ (m j : Nat) (q : List Qe), j + m = ts.length → QHeap q → q.length + (froms (ts.drop j)).length ≤ 1000000 → ts.length ≤ 140737488355328 →
    ∃ q', itr R12_0 (m + 1) ((q, ()), ts, (ts.length : Int), (j : Int), ()) = some ((q', ()), ()) ∧ QHeap q' ∧ q'.Perm (q ++ (froms (ts.drop j)).map fun x => (x, 0)) ∧ q'.length = q.length + (froms (ts.drop j)).length
  | 0, j, q, hj, hq, hl, hp => by
    refine ⟨q, itr_out ?_, hq, ?_, ?_⟩
    · unfold R12_0 Q12_0
      simp only []
      rw [bif_f (decide_eq_false (by omega))]
    · rw [List.drop_eq_nil_of_le (by omega)]
      simp [froms]
    · rw [List.drop_eq_nil_of_le (by omega)]
      simp [froms]
  | m + 1, j, q, hj, hq, hl, hp => by
    have hjl : j < ts.length := by omega
    have hd : froms (ts.drop j) = fr1 ts[j] ++ froms (ts.drop (j + 1)) := by rw [List.drop_eq_getElem_cons hjl]; rfl
    rw [hd, List.length_append] at hl
    have hfl : (fr1 ts[j]).length = ts[j].2.2.length := by simp [fr1]
    obtain ⟨q1, e, h1, p1, l1⟩ := c_pieces ts (ts.length : Int) (j : Int) ts[j].2.2 ts[j].2.2.length 0 q (by omega) hq (by omega) (hps _ (List.getElem_mem hjl))
    obtain ⟨q', e', h', p', l'⟩ := c_tables ts hps m (j + 1) q1 (by omega) h1 (by omega) hp
    refine ⟨q', ?_, h', ?_, ?_⟩
    · rw [← e']
      refine itr_in ?_
      have hg := at_get hjl
      have hpl := hps _ (List.getElem_mem hjl)
      generalize ts[j] = t at *
      obtain ⟨t0, t1, ps⟩ := t
      unfold R12_0 Q12_0
      simp only [] at e hpl ⊢
      rw [bif_t (decide_eq_true (by omega)), hg]
      simp only [Option.bind_some]
      have e := itrs_of e (by omega)
      rw [show ((0 : Nat) : Int) = 0 from rfl] at e
      rw [e]
      simp only [Option.bind_some]
      rw [wsi (by omega)]
      rfl
    · rw [hd, List.map_append]
      refine p'.trans ((p1.append_right _).trans ?_)
      rw [List.append_assoc, List.drop_zero]
      unfold fr1 en
      rw [List.map_map]
      exact .refl _
    · rw [hd, List.length_append]
      omega
theorem c_out : ∀ (m : Nat) (q : List Qe) (out : List Int), q.length = m → QHeap q → q.length + out.length ≤ 1000000 → out.Pairwise (· < ·) → (∀ e ∈ q, ∀ y ∈ out, y ≤ e.1) →
    ∃ C, itr R12_4 (m + 1) ((q, ()), out, ()) = some (C, ()) ∧ C.Pairwise (· < ·) ∧ (∀ x, x ∈ C ↔ (x ∈ out ∨ ∃ e ∈ q, e.1 = x)) ∧ C.length ≤ q.length + out.length
  | 0, q, out, hm, hq, hl, ho, hle => by
    have : q = [] := List.eq_nil_of_length_eq_zero hm
    subst this
    refine ⟨out, itr_out ?_, ho, by simp, by simp⟩
    unfold R12_4 Q12_4
    simp only []
    rw [qLen]
    rfl
  | m + 1, q, out, hm, hq, hl, ho, hle => by
    obtain ⟨q', e, h', pm, lm, least⟩ := qPop hq (by omega) (by omega)
    have h0 : q.getD 0 qz ∈ q := pm.symm.subset (by simp)
    generalize q.getD 0 qz = x at *
    obtain ⟨x0, x1⟩ := x
    simp only at least
    have hq' : ∀ e ∈ q', e ∈ q := fun e he => pm.symm.subset (by simp [he])
    have mem : ∀ z, (∃ e ∈ q, e.1 = z) ↔ z = x0 ∨ ∃ e ∈ q', e.1 = z := fun z => by
      constructor
      · rintro ⟨e, he, rfl⟩
        rcases List.mem_cons.1 (pm.subset he) with rfl | h
        · exact .inl rfl
        · exact .inr ⟨e, h, rfl⟩
      · rintro (rfl | ⟨e, he, rfl⟩)
        · exact ⟨_, h0, rfl⟩
        · exact ⟨e, hq' e he, rfl⟩
    -- laid behind, or not
    have lay : (∀ y ∈ out, y < x0) → ∃ C, itr R12_4 (m + 1) ((q', ()), out ++ [x0], ()) = some (C, ()) ∧ C.Pairwise (· < ·) ∧ (∀ x, x ∈ C ↔ (x ∈ out ∨ ∃ e ∈ q, e.1 = x)) ∧ C.length ≤ q.length + out.length := fun hlt => by
      obtain ⟨C, a, b, c, d⟩ := c_out m q' (out ++ [x0]) (by omega) h' (by simp; omega) (List.pairwise_append.2 ⟨ho, by simp, fun y hy z hz => by rw [List.mem_singleton.1 hz]; exact hlt y hy⟩) (fun e he y hy => by
        rcases List.mem_append.1 hy with h | h
        · exact hle e (hq' e he) y h
        · rw [List.mem_singleton.1 h]; exact least e he)
      refine ⟨C, a, b, fun z => ?_, by simp at d; omega⟩
      rw [c z, mem z, List.mem_append, List.mem_singleton, or_assoc]
    have hcons : out.length = 0 ∨ ∃ o a, out = o ++ [a] := by
      rcases List.eq_nil_or_concat out with h | ⟨o, a, h⟩
      · exact .inl (by rw [h]; rfl)
      · exact .inr ⟨o, a, by rw [h]; simp⟩
    rcases hcons with h | ⟨o, a, rfl⟩
    · have : out = [] := List.eq_nil_of_length_eq_zero h
      subst this
      obtain ⟨C, c1, c2⟩ := lay (fun y hy => by cases hy)
      refine ⟨C, ?_, c2⟩
      rw [← c1]
      refine itr_in ?_
      unfold R12_4 Q12_4
      simp only []
      rw [qLen]
      simp only [Option.bind_some]
      rw [bif_t (decide_eq_true (by omega)), e]
      rfl
    · have hi : o.length < (o ++ [a]).length := by simp
      have hget : (o ++ [a])[o.length]? = some a := by simp
      have pw := List.pairwise_append.1 ho
      have hlast : ∀ y ∈ o, y < a := fun y hy => pw.2.2 y hy a (by simp)
      have hax := hle _ h0 a (by simp)
      simp only at hax
      have hr : R12_4 ((q, ()), o ++ [a], ()) = (bif a != x0 then some (.inl ((q', ()), o ++ [a] ++ [x0], ())) else some (.inl ((q', ()), o ++ [a], ()))) := by
        unfold R12_4 Q12_4
        simp only []
        rw [qLen]
        simp only [Option.bind_some]
        rw [bif_t (decide_eq_true (by omega)), e]
        simp only [Option.bind_some]
        rw [bif_f (show (((o ++ [a]).length : Int) == 0) = false from by simp; omega), wsi (by simp at hl ⊢; omega), show ((o ++ [a]).length : Int) - 1 = (o.length : Int) from by simp, inb hi]
        simp only [cond_true, Option.bind_some, Int.toNat_natCast]
        rw [hget]
        simp only [Option.bind_some]
        rw [bif_t (decide_eq_true (by simp at hl ⊢; omega))]
        rfl
      by_cases hx : a = x0
      · rw [bif_f (show (a != x0) = false from by simpa using hx)] at hr
        obtain ⟨C, c1, c2, c3, c4⟩ := c_out m q' (o ++ [a]) (by omega) h' (by omega) ho (fun e he y hy => hle e (hq' e he) y hy)
        refine ⟨C, by rw [itr_in hr, c1], c2, fun z => ?_, by omega⟩
        rw [c3 z, mem z]
        constructor
        · rintro (h | h)
          · exact .inl h
          · exact .inr (.inr h)
        · rintro (h | h | h)
          · exact .inl h
          · exact .inl (by rw [h, ← hx]; simp)
          · exact .inr h
      · rw [bif_t (show (a != x0) = true from by simpa using hx)] at hr
        obtain ⟨C, c1, c2⟩ := lay (fun y hy => by
          rcases List.mem_append.1 hy with h | h
          · have := hlast y h; omega
          · rw [List.mem_singleton.1 h]; omega)
        exact ⟨C, by rw [itr_in hr, c1], c2⟩
theorem eCuts {ts : List Tb} (hps : ∀ t ∈ ts, t.2.2.length ≤ 140737488355328) (ht : ts.length ≤ 140737488355328) (hf : (froms ts).length ≤ 4096) : ∃ C, N12 (ts, ()) = some (C, ()) ∧ Cut (froms ts) C ∧ C.length ≤ 4096 := by
  obtain ⟨q, e, h, p, l⟩ := c_tables ts hps ts.length 0 [] (by omega) (fun c c0 c1 => by simp at c1) (by simpa using (show (froms ts).length ≤ 1000000 by omega)) ht
  rw [List.drop_zero] at p l
  simp only [List.length_nil, Nat.zero_add] at l
  obtain ⟨C, e2, s, m, lC⟩ := c_out q.length q [] rfl h (by simp; omega) (by simp) (fun e he y hy => by cases hy)
  refine ⟨C, ?_, ⟨s, fun x => ?_⟩, by simp at lC; omega⟩
  · unfold N12 M12
    simp only []
    have e := itrs_of e (by omega)
    rw [show ((0 : Nat) : Int) = 0 from rfl] at e
    rw [e]
    simp only [Option.bind_some]
    rw [itrs_of e2 (by omega)]
    rfl
  · rw [m x]
    constructor
    · rintro (h | ⟨e, he, rfl⟩)
      · cases h
      · have := p.subset he
        rw [List.nil_append, List.mem_map] at this
        obtain ⟨y, hy, rfl⟩ := this
        exact hy
    · intro hx
      exact .inr ⟨(x, 0), p.symm.subset (by rw [List.nil_append, List.mem_map]; exact ⟨x, hx, rfl⟩), rfl⟩
end Go.Proofs.Ytnlajjeppdchiaa.E
namespace Go.Proofs.Ytnlajjeppdchiaa.E
open Go
set_option linter.unusedVariables false
set_option linter.unusedSimpArgs false
set_option linter.unusedSectionVars false
set_option maxRecDepth 100000
theorem len0 {γ : Type} {l : List γ} (h : l.length = 0) : ((l.length : Int) == 0) = true := by rw [h]; rfl
theorem lenN {γ : Type} {l : List γ} (h : l.length ≠ 0) : ((l.length : Int) == 0) = false := by rw [beq_eq_false_iff_ne]; omega
/-- A look for the least place that is let in. -/
def scan (ab : Int → Bool) (st : Bool × Int) (f : Int) : Bool × Int := if ab f = true ∧ (st.1 = false ∨ f < st.2) then (true, f) else st
structure Seen (ab : Int → Bool) (l : List Int) (st : Bool × Int) : Prop where
  a : st.1 = false → ∀ f ∈ l, ab f = false
  b : st.1 = true → st.2 ∈ l ∧ ab st.2 = true ∧ ∀ f ∈ l, ab f = true → st.2 ≤ f
theorem scan_seen {ab : Int → Bool} : ∀ (l pre : List Int) (st : Bool × Int), Seen ab pre st → Seen ab (pre ++ l) (l.foldl (scan ab) st)
  | [], pre, st, h => by rw [List.append_nil]; exact h
  | f :: l, pre, st, h => by
    rw [List.foldl_cons, show pre ++ f :: l = (pre ++ [f]) ++ l from by simp]
    refine scan_seen l (pre ++ [f]) _ ?_
    obtain ⟨s0, s1⟩ := st
    unfold scan
    by_cases hc : ab f = true ∧ (s0 = false ∨ f < s1)
    · rw [if_pos hc]
      refine ⟨fun e => (by cases e), fun _ => ⟨by simp, hc.1, fun g hg ag => ?_⟩⟩
      rcases List.mem_append.1 hg with hg | hg
      · rcases hc.2 with e | e
        · have := h.a e g hg
          rw [ag] at this
          cases this
        · cases hs : s0 with
          | false => have := h.a hs g hg; rw [ag] at this; cases this
          | true =>
            have := (h.b hs).2.2 g hg ag
            simp only at this ⊢
            omega
      · rw [List.mem_singleton.1 hg]
        exact Int.le_refl _
    · rw [if_neg hc]
      refine ⟨fun e g hg => ?_, fun e => ?_⟩
      · rcases List.mem_append.1 hg with hg | hg
        · exact h.a e g hg
        · rw [List.mem_singleton.1 hg]
          cases hf : ab f with
          | false => rfl
          | true => exact absurd ⟨hf, .inl e⟩ hc
      · obtain ⟨b1, b2, b3⟩ := h.b e
        refine ⟨by simp [b1], b2, fun g hg ag => ?_⟩
        rcases List.mem_append.1 hg with hg | hg
        · exact b3 g hg ag
        · rw [List.mem_singleton.1 hg] at ag ⊢
          simp only
          by_cases hl : f < s1
          · exact absurd ⟨ag, .inr hl⟩ hc
          · omega
/-- What lies behind the last place. -/
def abv (out : List Int) (f : Int) : Bool := decide (out.length = 0) || decide (f > out.getD (out.length - 1) 0)
section
variable (ts : List Tb) (out : List Int) (hts : ts.length ≤ 140737488355328) (hps : ∀ t ∈ ts, t.2.2.length ≤ 140737488355328) (ho : out.length ≤ 140737488355328)
include hts hps ho
theorem r_pieces {i : Nat} (hi : i < ts.length) : ∀ (m k : Nat) (st : Bool × Int), k + m = ts[i].2.2.length → itr R13_4 (m + 1) (ts, out, st.1, st.2, (i : Int), (k : Int), ()) = some (ts, out, (((fr1 ts[i]).drop k).foldl (scan (abv out)) st).1, (((fr1 ts[i]).drop k).foldl (scan (abv out)) st).2, (i : Int), ())
  | 0, k, st, hk => by
    have hg := at_get hi
    rw [List.drop_eq_nil_of_le (by simp [fr1]; omega)]
    generalize ts[i] = t at *
    obtain ⟨t0, t1, ps⟩ := t
    refine itr_out ?_
    unfold R13_4 Q13_4
    simp only [] at hk ⊢
    rw [hg]
    simp only [Option.bind_some]
    rw [bif_f (decide_eq_false (by omega))]
    rfl
  | m + 1, k, st, hk => by
    have hg := at_get hi
    have hpl := hps _ (List.getElem_mem hi)
    have ih := fun st' => r_pieces hi m (k + 1) st' (by omega)
    have hkl : k < (fr1 ts[i]).length := by simp [fr1]; omega
    have hkp : k < ts[i].2.2.length := by omega
    have hgp := at_get hkp
    have hfk : (fr1 ts[i])[k] = (ts[i].2.2[k]).1 := by simp [fr1]
    rw [List.drop_eq_getElem_cons hkl, List.foldl_cons, ← ih, hfk]
    refine itr_in ?_
    generalize (fr1 ts[i]) = F at *
    clear ih
    generalize ts[i].2.2[k] = p at *
    generalize ts[i] = t at *
    obtain ⟨t0, t1, ps⟩ := t
    obtain ⟨s0, s1⟩ := st
    obtain ⟨p0, ⟨p1, p2⟩, ⟨p3, p4⟩, p5, p6⟩ := p
    unfold R13_4 Q13_4 scan abv
    simp only [] at hk hpl hgp ⊢
    have hk2 : k < ps.length := hkp
    have hpl2 : ps.length ≤ 140737488355328 := hpl
    rw [hg]
    simp only [Option.bind_some]
    rw [bif_t (decide_eq_true (by omega)), hgp]
    simp only [Option.bind_some]
    rw [wsi (n := (k : Int) + 1) (by omega), show (k : Int) + 1 = ((k + 1 : Nat) : Int) from by omega]
    by_cases h0 : out.length = 0
    · rw [bif_t (len0 h0), decide_eq_true h0]
      cases s0 with
      | false =>
        rw [if_pos (by simp)]
        rfl
      | true =>
        by_cases hl : p0 < s1
        · rw [if_pos (by simp [hl]), decide_eq_true hl]
          rfl
        · rw [if_neg (by simp [hl]), decide_eq_false hl]
          rfl
    · have hlt : out.length - 1 < out.length := by omega
      rw [bif_f (lenN h0), wsi (n := (out.length : Int) - 1) (by omega), show (out.length : Int) - 1 = ((out.length - 1 : Nat) : Int) from by omega, inb hlt]
      simp only [cond_true, Option.bind_some, Int.toNat_natCast]
      rw [List.getElem?_eq_getElem hlt, Hp.getD_get hlt, decide_eq_false h0]
      simp only [Option.bind_some, Bool.false_or]
      by_cases ha : p0 > out[out.length - 1]
      · rw [decide_eq_true ha]
        cases s0 with
        | false =>
          rw [if_pos (by simp)]
          rfl
        | true =>
          by_cases hl : p0 < s1
          · rw [if_pos (by simp [hl]), decide_eq_true hl]
            rfl
          · rw [if_neg (by simp [hl]), decide_eq_false hl]
            rfl
      · rw [decide_eq_false ha, if_neg (by simp)]
        rfl
theorem r_tables : ∀ (m i : Nat) (st : Bool × Int), i + m = ts.length → itr R13_2 (m + 1) (ts, out, st.1, st.2, (i : Int), ()) = some (ts, out, ((froms (ts.drop i)).foldl (scan (abv out)) st).1, ((froms (ts.drop i)).foldl (scan (abv out)) st).2, ())
  | 0, i, st, hi => by
    rw [List.drop_eq_nil_of_le (by omega)]
    refine itr_out ?_
    unfold R13_2 Q13_2
    simp only []
    rw [bif_f (decide_eq_false (by omega))]
    rfl
  | m + 1, i, st, hi => by
    have hil : i < ts.length := by omega
    have L := itrs_of (r_pieces ts out hts hps ho hil ts[i].2.2.length 0 st (by omega)) (by have := hps _ (List.getElem_mem hil); omega)
    have ih := fun st' => r_tables m (i + 1) st' (by omega)
    have hd : froms (ts.drop i) = fr1 ts[i] ++ froms (ts.drop (i + 1)) := by rw [List.drop_eq_getElem_cons hil]; rfl
    rw [hd, List.foldl_append, ← ih]
    refine itr_in ?_
    rw [List.drop_zero] at L
    rw [show ((0 : Nat) : Int) = 0 from rfl] at L
    unfold R13_2 Q13_2
    simp only []
    rw [bif_t (decide_eq_true (by omega)), L]
    simp only [Option.bind_some]
    rw [wsi (by omega)]
    rfl
end
theorem rCuts {ts : List Tb} {C : List Int} (hts : ts.length ≤ 140737488355328) (hps : ∀ t ∈ ts, t.2.2.length ≤ 140737488355328) (hC : Cut (froms ts) C) (hl : C.length ≤ 4096) : N13 (ts, ()) = some (C, ()) := by
  have pw := List.pairwise_iff_getElem.1 hC.s
  have L := itrs_seq (ro := R13_0) (fun k => (ts, C.take k, ())) C.length (x := (ts, [], ())) (y := (C, ())) rfl (fun k hk => by
    have hlen : (C.take k).length = k := by rw [List.length_take]; omega
    have T := itrs_of (r_tables ts (C.take k) hts hps (by omega) ts.length 0 (false, 0) (by omega)) (by omega)
    rw [List.drop_zero] at T
    have S := scan_seen (ab := abv (C.take k)) (froms ts) [] (false, 0) ⟨fun _ f hf => (by cases hf), fun e => (by cases e)⟩
    rw [List.nil_append] at S
    have ab : ∀ i (hi : i < C.length), abv (C.take k) C[i] = true ↔ k ≤ i := fun i hi => by
      unfold abv
      rw [hlen]
      by_cases k0 : k = 0
      · subst k0; simp
      · rw [decide_eq_false k0, Bool.false_or, decide_eq_true_eq, Hp.getD_get (show k - 1 < (C.take k).length by omega), List.getElem_take]
        constructor
        · intro h
          rcases Nat.lt_or_ge i (k - 1) with hc | hc
          · have := pw i (k - 1) hi (by omega) hc; omega
          · by_cases e : i = k - 1
            · subst e; omega
            · omega
        · intro h
          exact pw (k - 1) i (by omega) hi (by omega)
    generalize (froms ts).foldl (scan (abv (C.take k))) (false, 0) = st at *
    obtain ⟨s0, s1⟩ := st
    have hck := (hC.m C[k]).1 (List.getElem_mem hk)
    have found : s0 = true := by
      cases h : s0 with
      | true => rfl
      | false =>
        have := S.a h _ hck
        rw [(ab k hk).2 (Nat.le_refl _)] at this
        cases this
    subst found
    obtain ⟨b1, b2, b3⟩ := S.b rfl
    simp only at b1 b2 b3
    have e : s1 = C[k] := by
      obtain ⟨i, hi, e⟩ := List.getElem_of_mem ((hC.m s1).2 b1)
      have hik : k ≤ i := (ab i hi).1 (by rw [e]; exact b2)
      have hle := b3 _ hck ((ab k hk).2 (Nat.le_refl _))
      by_cases eik : i = k
      · subst eik; exact e.symm
      · have := pw k i hk hi (by omega)
        omega
    subst e
    unfold R13_0 Q13_0
    simp only [] at T ⊢
    rw [show ((0 : Nat) : Int) = 0 from rfl] at T
    rw [T]
    simp only [Option.bind_some, Bool.not_true, cond_false]
    rw [hlen, bif_t (decide_eq_true (by omega))]
    simp only [Option.bind_some]
    rw [List.take_succ_eq_append_getElem hk]) (by
    have T := itrs_of (r_tables ts C hts hps (by omega) ts.length 0 (false, 0) (by omega)) (by omega)
    rw [List.drop_zero] at T
    have S := scan_seen (ab := abv C) (froms ts) [] (false, 0) ⟨fun _ f hf => (by cases hf), fun e => (by cases e)⟩
    rw [List.nil_append] at S
    generalize (froms ts).foldl (scan (abv C)) (false, 0) = st at *
    obtain ⟨s0, s1⟩ := st
    have found : s0 = false := by
      cases h : s0 with
      | false => rfl
      | true =>
        exfalso
        obtain ⟨b1, b2, b3⟩ := S.b h
        simp only at b1 b2
        obtain ⟨i, hi, e⟩ := List.getElem_of_mem ((hC.m s1).2 b1)
        unfold abv at b2
        rw [decide_eq_false (show ¬ C.length = 0 by omega), Bool.false_or, decide_eq_true_eq, Hp.getD_get (show C.length - 1 < C.length by omega), ← e] at b2
        by_cases eik : i = C.length - 1
        · subst eik; omega
        · have := pw i (C.length - 1) hi (by omega) (by omega)
          omega
    subst found
    rw [List.take_length]
    unfold R13_0 Q13_0
    simp only [] at T ⊢
    rw [show ((0 : Nat) : Int) = 0 from rfl] at T
    rw [T]
    rfl) (by omega)
  unfold N13 M13
  simp only []
  rw [L]
  rfl
/-! ### how many pieces -/
def tot (ts : List Tb) : Nat := (ts.map fun t => 1 + t.2.2.length).sum
theorem froms_tot : ∀ ts : List Tb, (froms ts).length + ts.length = tot ts
  | [] => rfl
  | t :: ts => by
    have := froms_tot ts
    unfold froms tot at *
    simp only [List.flatMap_cons, List.length_append, List.length_cons, List.map_cons, List.sum_cons]
    have : (fr1 t).length = t.2.2.length := by simp [fr1]
    omega
theorem tot_app (a b : List Tb) : tot (a ++ b) = tot a + tot b := by unfold tot; rw [List.map_append, List.sum_append]
theorem tot_mono (ts : List Tb) (j : Nat) : tot (ts.take j) ≤ tot ts := by
  have := tot_app (ts.take j) (ts.drop j)
  rw [List.take_append_drop] at this
  omega
theorem ePieces {ts : List Tb} (hts : ts.length ≤ 140737488355328) (hps : ∀ t ∈ ts, t.2.2.length ≤ 140737488355328) : ∃ n : Int, N8 (ts, ()) = some (n, ()) ∧ (n ≤ 4096 → tot ts ≤ 4096) := by
  obtain ⟨y, h1, n, rfl, h3⟩ := itrs_inv (ro := R8_0) (fun z => ∃ j : Nat, j ≤ ts.length ∧ z = (ts, (tot (ts.take j) : Int), (j : Int), ()) ∧ tot (ts.take j) ≤ 140737488359424 + 4097) (fun z => ts.length - (z.2.2.1).toNat) (fun y => ∃ n : Int, y = (n, ()) ∧ (n ≤ 4096 → tot ts ≤ 4096)) (fun z ⟨j, hj, e, hb⟩ => by
    subst e
    by_cases hjl : j < ts.length
    · have hg := at_get hjl
      have hpl := hps _ (List.getElem_mem hjl)
      have ht : tot (ts.take (j + 1)) = tot (ts.take j) + (1 + ts[j].2.2.length) := by
        rw [List.take_succ_eq_append_getElem hjl, tot_app]
        simp [tot]
      by_cases hn : tot (ts.take j) ≤ 4096
      · refine .inl ⟨(ts, (tot (ts.take (j + 1)) : Int), ((j + 1 : Nat) : Int), ()), ?_, ⟨j + 1, hjl, rfl, by omega⟩, by simp only [Int.toNat_natCast]; omega⟩
        rw [ht]
        generalize ts[j] = t at *
        obtain ⟨t0, t1, ps⟩ := t
        unfold R8_0 Q8_0
        simp only [] at hpl ⊢
        rw [bif_t (decide_eq_true (show (j : Int) < (ts.length : Int) by omega)), bif_t (decide_eq_true (show (tot (ts.take j) : Int) ≤ 4096 by omega)), hg]
        simp only [Option.bind_some]
        rw [wsi (n := (tot (ts.take j) : Int) + 1) (by omega), wsi (n := (tot (ts.take j) : Int) + 1 + (ps.length : Int)) (by omega), wsi (n := (j : Int) + 1) (by omega)]
        rw [show (tot (ts.take j) : Int) + 1 + (ps.length : Int) = ((tot (ts.take j) + (1 + ps.length) : Nat) : Int) from by omega]
        rfl
      · refine .inr ⟨((tot (ts.take j) : Int), ()), ?_, _, rfl, fun h => absurd h (by omega)⟩
        unfold R8_0 Q8_0
        simp only []
        rw [bif_t (decide_eq_true (show (j : Int) < (ts.length : Int) by omega)), bif_f (decide_eq_false (show ¬ (tot (ts.take j) : Int) ≤ 4096 by omega))]
    · refine .inr ⟨((tot (ts.take j) : Int), ()), ?_, _, rfl, fun h => ?_⟩
      · unfold R8_0 Q8_0
        simp only []
        rw [bif_f (decide_eq_false (show ¬ (j : Int) < (ts.length : Int) by omega))]
      · rw [List.take_of_length_le (show ts.length ≤ j by omega)] at h
        omega) (x := (ts, 0, 0, ())) ⟨0, by omega, rfl, by simp [tot]⟩ (by simp only [Int.toNat_zero]; omega)
  refine ⟨n, ?_, h3⟩
  unfold N8 M8
  simp only []
  rw [h1]
  rfl
end Go.Proofs.Ytnlajjeppdchiaa.E
namespace Go.Proofs.Ytnlajjeppdchiaa.E
open Go
set_option linter.unusedVariables false
set_option maxRecDepth 100000
theorem awake_yes : N7 () = some (true, ()) := by kernel_rfl
theorem pureWeaveCuts : PWeaveCuts := by
  intro ts ⟨hl, hw⟩
  have b1 : Program.bytesOf Try.prog 27 = 40 := by kernel_rfl
  have b2 : Program.bytesOf Try.prog 43 = 56 := by kernel_rfl
  rw [b1] at hl
  have hps : ∀ t ∈ ts, t.2.2.length ≤ 140737488355328 := fun t ht => by
    have := (hw t ht).2.2.1
    rw [b2] at this
    omega
  obtain ⟨n, en, hn⟩ := ePieces (ts := ts) (by omega) hps
  unfold N4 M4
  simp only []
  rw [awake_yes]
  simp only [Option.bind_some, Bool.not_true, cond_false]
  rw [en]
  simp only [Option.bind_some]
  by_cases hb : n > 4096
  · rw [bif_t (decide_eq_true hb)]
  rw [bif_f (decide_eq_false hb)]
  have ht := hn (by omega)
  have hf := froms_tot ts
  obtain ⟨C, e1, hC, lC⟩ := eCuts (ts := ts) hps (by omega) (by omega)
  have e2 := rCuts (ts := ts) (by omega) hps hC lC
  rw [e1]
  simp only [Option.bind_some]
  rw [e2]
  simp only [Option.bind_some, bne_self_eq_false, cond_false]
  have L := itrs_seq (ro := R4_0) (fun j => (C, C, (j : Int), ())) C.length (x := (C, C, 0, ())) (y := .inl ()) rfl (fun j hj => by
    unfold R4_0 Q4_0
    simp only []
    rw [bif_t (decide_eq_true (by omega)), inb hj]
    simp only [cond_true, Option.bind_some, Int.toNat_natCast]
    rw [List.getElem?_eq_getElem hj]
    simp only [Option.bind_some, bne_self_eq_false, cond_false]
    rw [wsi (by omega)]
    rfl) (by
    unfold R4_0 Q4_0
    simp only []
    rw [bif_f (decide_eq_false (by omega))]) (by omega)
  rw [L]
  rfl
end Go.Proofs.Ytnlajjeppdchiaa.E
namespace Go.Proofs.Ytnlajjeppdchiaa.E.Row
open Go Go.ChangeShapes Go.WideShapes Go.ChangeAt Go.RowKit Go.Proofs.Ytnlajjeppdchiaa
set_option linter.unusedVariables false
set_option maxRecDepth 100000
theorem own : ownKnob Try.prog.godebug = none := by kernel_rfl
theorem laidOut : laidOutB Try.prog = true := by kernel_rfl
theorem came39 : Came κ Try.prog 39 ((.pair (.int .i64) (.int .u64)) : K τ (Int × Int)) W39 := Came.struct Try.underlying39 (by kernel_rfl) (CameFs.cons (o1 := 1) (Q := fun x : Int => (-9223372036854775808 ≤ x ∧ x ≤ 9223372036854775807)) rfl (by kernel_rfl) rfl (Came.i64 Try.underlying2) (CameFs.one (Q := fun x : Int => (0 ≤ x ∧ x ≤ 18446744073709551615)) rfl (by kernel_rfl) (Came.u64 Try.underlying37)))
theorem came41 : Came κ Try.prog 41 ((.pair (.pair (.int .i64) (.int .u64)) (.pair (.pair (.int .i64) (.int .u64)) (.pair (.int .i64) (.int .u64)))) : K τ ((Int × Int) × ((Int × Int) × (Int × Int)))) W41 := Came.struct Try.underlying41 (by kernel_rfl) (CameFs.cons (o1 := 2) (Q := fun x : (Int × Int) => W39 x) rfl (by kernel_rfl) rfl came39 (CameFs.cons (o1 := 4) (Q := fun x : (Int × Int) => W39 x) rfl (by kernel_rfl) rfl came39 (CameFs.one (Q := fun x : (Int × Int) => W39 x) rfl (by kernel_rfl) came39)))
theorem came43 : Came κ Try.prog 43 ((.pair (.int .i64) (.pair (.pair (.int .i64) (.int .u64)) (.pair (.pair (.int .i64) (.int .u64)) (.pair (.int .i64) (.int .u64))))) : K τ (Int × ((Int × Int) × ((Int × Int) × (Int × Int))))) W43 := Came.struct Try.underlying43 (by kernel_rfl) (CameFs.cons (o1 := 1) (Q := fun x : Int => (-9223372036854775808 ≤ x ∧ x ≤ 9223372036854775807)) rfl (by kernel_rfl) rfl (Came.i64 Try.underlying2) (CameFs.one (Q := fun x : ((Int × Int) × ((Int × Int) × (Int × Int))) => W41 x) rfl (by kernel_rfl) came41))
theorem came25 : Came κ Try.prog 25 (.sl (τ := τ) 43) (fun a : (List (Int × ((Int × Int) × ((Int × Int) × (Int × Int))))) => (List.length a * Program.bytesOf Try.prog 43 ≤ 140737488351232 ∧ ∀ x ∈ a, W43 x)) := Came.slice (κ := κ) (e := 43) (Q := fun x : (Int × ((Int × Int) × ((Int × Int) × (Int × Int)))) => W43 x) Try.underlying25 (by kernel_rfl) (by kernel_rfl) rfl (show Came κ Try.prog 43 (κ 43) (fun x : (Int × ((Int × Int) × ((Int × Int) × (Int × Int)))) => W43 x) from came43)
theorem came27 : Came κ Try.prog 27 ((.pair (.int .i64) (.pair (.int .i64) (.sl (τ := τ) 43))) : K τ (Int × (Int × (List (Int × ((Int × Int) × ((Int × Int) × (Int × Int)))))))) W27 := Came.struct Try.underlying27 (by kernel_rfl) (CameFs.cons (o1 := 1) (Q := fun x : Int => (-9223372036854775808 ≤ x ∧ x ≤ 9223372036854775807)) rfl (by kernel_rfl) rfl (Came.i64 Try.underlying2) (CameFs.cons (o1 := 2) (Q := fun x : Int => (-9223372036854775808 ≤ x ∧ x ≤ 9223372036854775807)) rfl (by kernel_rfl) rfl (Came.i64 Try.underlying3) (CameFs.one (Q := fun x : (List (Int × ((Int × Int) × ((Int × Int) × (Int × Int))))) => (List.length x * Program.bytesOf Try.prog 43 ≤ 140737488351232 ∧ ∀ x' ∈ x, W43 x')) rfl (by kernel_rfl) came25)))
theorem came22 : Came κ Try.prog 22 (.sl (τ := τ) 27) (fun a : (List (Int × (Int × (List (Int × ((Int × Int) × ((Int × Int) × (Int × Int)))))))) => (List.length a * Program.bytesOf Try.prog 27 ≤ 140737488351232 ∧ ∀ x ∈ a, W27 x)) := Came.slice (κ := κ) (e := 27) (Q := fun x : (Int × (Int × (List (Int × ((Int × Int) × ((Int × Int) × (Int × Int))))))) => W27 x) Try.underlying22 (by kernel_rfl) (by kernel_rfl) rfl (show Came κ Try.prog 27 (κ 27) (fun x : (Int × (Int × (List (Int × ((Int × Int) × ((Int × Int) × (Int × Int))))))) => W27 x) from came27)
theorem lifted (os : Os) (started : os.Started) (H : Type) (enc : TypeId × Value → H) :
    ReturnsInHanded {} Try.checked os 4 .any (Rows.weaveCutsSpec.pre6 enc Try.prog Try.f4 Rows.weaveCutsRow.domain false) (Rows.weaveCutsSpec.post enc Try.prog Try.f4 false true false false) := by
  refine returnsInHanded_of_change_sized (C := Try.checked) own started (by kernel_rfl) Try.func4
    (ChangeSpec.witness6 (enc := enc) (C := Try.checked) false ⟨#[], #[(.slice none 0 0)], []⟩ 8 (by kernel_rfl) (by kernel_rfl) (by kernel_rfl) (by kernel_rfl)) ?_
  intro W base args ds gs before hval0 hW hcnd hsz0 _
  have hsz : (DataW.weightsEach Try.prog (Try.f4.params.toList ++ Rows.weaveCutsSpec.plain.varTypes Try.prog) (ds ++ gs)).all (· ≤ reachBytes) = true := hsz0
  have hval : ∀ (j : Nat) t v, Try.f4.params[j]? = some t → args[j]? = some v → Value.okWide Try.prog W .any base t v := hval0
  have hW' := hW
  obtain ⟨p, q, hA0, hV, rfl, hfz, hnd⟩ := hW
  have hA : DataW.TrodAll enc Try.prog W 0 (fun _ => true) true Try.f4.params.toList args.toList ds p := hA0
  rw [Try.params4] at hA hval hsz
  obtain ⟨v0, vs0, d0, ds0, p0, q0, hargs, rfl, rfl, h0, r0⟩ := trodAll_cons hA
  obtain ⟨rfl, rfl, rfl⟩ := trodAll_nil r0
  obtain rfl : args = #[v0] := by cases args; simp_all
  obtain ⟨rfl, rfl⟩ := trodVars_none hV
  have hwt : ∀ (j : Nat) t d, [22][j]? = some t → [d0][j]? = some d → ∀ n ∈ DataW.weights Try.prog t d, n ≤ reachBytes := fun j t d h1 h2 n hn => by
    have := List.all_eq_true.1 hsz n (weights_each (j := j) (by simpa using (List.getElem?_append_left (l₂ := Rows.weaveCutsSpec.plain.varTypes Try.prog) (List.getElem?_eq_some_iff.1 h1).1).trans h1) (by simpa using h2) n hn)
    simpa using this
  have lt0 : ∀ x ∈ p0, x.block < W.heap.size := by obtain ⟨m, hm⟩ := h0; exact DataW.trod_lt m _ _ _ hm
  obtain ⟨a0, e0, y0⟩ := arg_slice Try.underlying22 came22 (hval 0 22 v0 rfl rfl) h0 (hwt 0 22 d0 rfl rfl)
  have hp : N4 (a0, ()) = some (true, ()) := pureWeaveCuts a0 y0
  refine (law_calls (i := i4) (n := N4) (F := Try.f4) (code := bodyOf Try.f4) s4 (by kernel_rfl) Try.func4 (by kernel_rfl) (by kernel_rfl) hp (argsK_cons e0 argsK_nil)).mono fun e W' ⟨he, bel⟩ => ?_
  subst he
  exact ⟨_, rfl, _, _, _, [], _, [], hW', trodAll_mk1 (shut_bool Try.underlying4 _), (trodAll_cons_mk (Below.trod laidOut (by kernel_rfl) (of_decide_eq_true (by kernel_rfl)) h0 bel lt0) trodAll_mk0), rfl, bel.frame _, fun h => by cases h⟩
theorem over : Rows.weaveCutsRow.holds Try.pinned (OpenSpec.ofChange Rows.weaveCutsSpec) :=
  OpenClaim.holds_of_wide 4 Try.f4 rfl rfl rfl rfl rfl rfl rfl ⟨rfl, rfl, rfl, rfl, rfl⟩ rfl rfl rfl rfl rfl (by kernel_rfl) Try.func4 (by kernel_rfl)
    (of_decide_eq_true (by kernel_rfl)) (by unfold Func.isWrapper; first | (rw [if_pos (by decide +kernel)]; kernel_rfl) | (rw [if_neg (by decide +kernel)]; exact ⟨rfl, rfl⟩))
    (fun os started H enc _ => lifted os started H enc)
theorem proved : Rows.WeaveCutsSaid := over
end Go.Proofs.Ytnlajjeppdchiaa.E.Row
namespace Go.Proofs.Ytnlajjeppdchiaa
/-- The row, under a short name, for the claim. -/
theorem weaveCuts_holds : Rows.WeaveCutsSaid := Ytnlajjeppdchiaa.E.Row.proved
#print axioms weaveCuts_holds
end Go.Proofs.Ytnlajjeppdchiaa
