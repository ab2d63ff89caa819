/- The statement WeaveMeans for every input: the plain facts on the functions' results, and the row. No condition. -/
import Derived.Test.YtnlajjeppdchiaaGF0
import Derived.Test.YtnlajjeppdchiaaGE1
import Derived.Test.YtnlajjeppdchiaaRows
import Derived.Test.YtnlajjeppdchiaaChecked
namespace Go.Proofs.Ytnlajjeppdchiaa.E
open Go
def W39 (a : (Int × Int)) : Prop := (-9223372036854775808 ≤ a.1 ∧ a.1 ≤ 9223372036854775807) ∧ (0 ≤ a.2 ∧ a.2 ≤ 18446744073709551615)
def W41 (a : ((Int × Int) × ((Int × Int) × (Int × Int)))) : Prop := W39 a.1 ∧ W39 a.2.1 ∧ W39 a.2.2
def W43 (a : (Int × ((Int × Int) × ((Int × Int) × (Int × Int))))) : Prop := (-9223372036854775808 ≤ a.1 ∧ a.1 ≤ 9223372036854775807) ∧ W41 a.2
def W27 (a : (Int × (Int × (List (Int × ((Int × Int) × ((Int × Int) × (Int × Int)))))))) : Prop := (-9223372036854775808 ≤ a.1 ∧ a.1 ≤ 9223372036854775807) ∧ (-9223372036854775808 ≤ a.2.1 ∧ a.2.1 ≤ 9223372036854775807) ∧ (List.length a.2.2 * Program.bytesOf Try.prog 43 ≤ 140737488351232 ∧ ∀ x ∈ a.2.2, W43 x)
def PWeaveMeans : Prop := ∀ (a0 : (List (Int × (Int × (List (Int × ((Int × Int) × ((Int × Int) × (Int × Int))))))))) (a1 : (List Int)), (List.length a0 * Program.bytesOf Try.prog 27 ≤ 140737488351232 ∧ ∀ x ∈ a0, W27 x) → (List.length a1 * Program.bytesOf Try.prog 2 ≤ 140737488351232 ∧ ∀ x ∈ a1, (-9223372036854775808 ≤ x ∧ x ≤ 9223372036854775807)) → N6 (a0, a1, ()) = some (true, ())
end Go.Proofs.Ytnlajjeppdchiaa.E
namespace Go.Proofs.Ytnlajjeppdchiaa.E.Hp
open Go
set_option linter.unusedVariables false
set_option linter.unusedSectionVars false
set_option linter.unusedSimpArgs false
theorem getD_set {γ : Type} {l : List γ} {i j : Nat} {a z : γ} (hi : i < l.length) : (l.set i a).getD j z = if j = i then a else l.getD j z := by
  rw [List.getD_eq_getElem?_getD, List.getD_eq_getElem?_getD, List.getElem?_set]
  by_cases h : i = j
  · subst h
    simp [hi]
  · rw [if_neg h, if_neg (fun e => h e.symm)]
theorem getD_get {γ : Type} {l : List γ} {j : Nat} {z : γ} (h : j < l.length) : l.getD j z = l[j] := by
  rw [List.getD_eq_getElem?_getD, List.getElem?_eq_getElem h]
  rfl
section
variable {α : Type} [DecidableEq α] {z : α}
def swp (z : α) (l : List α) (i j : Nat) : List α := (l.set i (l.getD j z)).set j (l.getD i z)
theorem swp_len (l : List α) (i j : Nat) : (swp z l i j).length = l.length := by simp [swp]
theorem swp_get {l : List α} {i j k : Nat} (hi : i < l.length) (hj : j < l.length) : (swp z l i j).getD k z = if k = j then l.getD i z else if k = i then l.getD j z else l.getD k z := by
  unfold swp
  rw [getD_set (by simpa using hj), getD_set hi]
theorem swp_perm {l : List α} {i j : Nat} (hi : i < l.length) (hj : j < l.length) : (swp z l i j).Perm l := by
  rw [List.perm_iff_count]
  intro a
  unfold swp
  rw [getD_get hj, getD_get hi, List.count_set (by simpa using hj), List.count_set hi, List.getElem_set]
  have h1 : (if l[i] == a then 1 else 0) ≤ l.count a := by
    split
    · rename_i h
      have : l[i] = a := by simpa using h
      exact List.count_pos_iff.2 (this ▸ List.getElem_mem hi)
    · omega
  by_cases hij : i = j
  · subst hij
    simp only [if_true]
    omega
  · rw [if_neg hij]
    have h2 : (if l[i] == a then 1 else 0) + (if l[j] == a then 1 else 0) ≤ l.count a ∨ ¬ (l[i] == a ∧ l[j] == a) := by
      by_cases hb : (l[i] == a) = true ∧ (l[j] == a) = true
      · refine .inl ?_
        rw [if_pos hb.1, if_pos hb.2]
        have e1 : l[i] = a := by simpa using hb.1
        have e2 : l[j] = a := by simpa using hb.2
        -- two places
        have : ∀ (l : List α) (i j : Nat) (hi : i < l.length) (hj : j < l.length), i < j → l[i] = a → l[j] = a → 2 ≤ l.count a := by
          intro l
          induction l with
          | nil => intro i j hi; simp at hi
          | cons x l ih =>
            intro i j hi hj h1 h2 h3
            cases j with
            | zero => omega
            | succ j =>
              cases i with
              | zero =>
                simp only [List.getElem_cons_zero] at h2
                simp only [List.getElem_cons_succ] at h3
                subst h2
                rw [List.count_cons_self]
                have := List.count_pos_iff.2 (h3 ▸ List.getElem_mem (by simpa using hj : j < l.length))
                omega
              | succ i =>
                have := ih i j (by simpa using hi) (by simpa using hj) (by omega) (by simpa using h2) (by simpa using h3)
                exact Nat.le_trans this (List.count_le_count_cons)
        rcases Nat.lt_or_gt_of_ne hij with h | h
        · exact this l i j hi hj h e1 e2
        · exact this l j i hj hi h e2 e1
      · exact .inr hb
    have h3 : (if l[j] == a then 1 else 0) ≤ l.count a := by
      split
      · rename_i h
        have : l[j] = a := by simpa using h
        exact List.count_pos_iff.2 (this ▸ List.getElem_mem hj)
      · omega
    by_cases ha : (l[i] == a) = true <;> by_cases hb : (l[j] == a) = true <;> simp only [ha, hb, if_true, if_false, Bool.false_eq_true] at h1 h2 h3 ⊢ <;> omega
variable (lt : α → α → Bool)
/-- The order's laws. -/
structure Lw : Prop where
  asym : ∀ a b, lt a b = true → lt b a = false
  neg : ∀ a b c, lt a b = false → lt b c = false → lt a c = false
def Heap (z : α) (l : List α) (n : Nat) : Prop := ∀ c, 0 < c → c < n → lt (l.getD c z) (l.getD ((c - 1) / 2) z) = false
structure UpI (z : α) (l : List α) (j : Nat) : Prop where
  a : ∀ c, 0 < c → c < l.length → c ≠ j → lt (l.getD c z) (l.getD ((c - 1) / 2) z) = false
  b : ∀ c, 0 < c → c < l.length → (c - 1) / 2 = j → 0 < j → lt (l.getD c z) (l.getD ((j - 1) / 2) z) = false
variable {lt} (W : Lw lt)
include W
theorem up_end {l : List α} {j : Nat} (h : UpI lt z l j) (hj : j = 0 ∨ lt (l.getD j z) (l.getD ((j - 1) / 2) z) = false) : Heap lt z l l.length := fun c c0 c1 => by
  by_cases e : c = j
  · subst e
    rcases hj with h | h
    · omega
    · exact h
  · exact h.a c c0 c1 e
theorem up_step {l : List α} {j : Nat} (h : UpI lt z l j) (h0 : 0 < j) (hj : j < l.length) (hl : lt (l.getD j z) (l.getD ((j - 1) / 2) z) = true) : UpI lt z (swp z l ((j - 1) / 2) j) ((j - 1) / 2) := by
  have hi : (j - 1) / 2 < l.length := by omega
  have asy := W.asym _ _ hl
  have ln := swp_len (z := z) l ((j - 1) / 2) j
  refine ⟨fun c c0 c1 ce => ?_, fun c c0 c1 cp i0 => ?_⟩
  · rw [ln] at c1
    rw [swp_get hi hj, swp_get hi hj]
    by_cases k1 : c = j
    · subst k1
      rw [if_pos rfl, if_neg (by omega), if_pos rfl]
      exact asy
    · rw [if_neg k1, if_neg ce]
      by_cases k2 : (c - 1) / 2 = j
      · rw [if_pos k2]
        exact h.b c c0 c1 k2 h0
      · rw [if_neg k2]
        by_cases k3 : (c - 1) / 2 = (j - 1) / 2
        · rw [if_pos k3]
          have := h.a c c0 c1 k1
          rw [k3] at this
          exact W.neg _ _ _ this asy
        · rw [if_neg k3]
          exact h.a c c0 c1 k1
  · rw [ln] at c1
    rw [swp_get hi hj, swp_get hi hj, if_neg (show ¬ ((j - 1) / 2 - 1) / 2 = j by omega), if_neg (show ¬ ((j - 1) / 2 - 1) / 2 = (j - 1) / 2 by omega)]
    have top := h.a ((j - 1) / 2) i0 hi (by omega)
    by_cases k1 : c = j
    · rw [if_pos k1]
      exact top
    · rw [if_neg k1, if_neg (by omega)]
      have := h.a c c0 c1 k1
      rw [cp] at this
      exact W.neg _ _ _ this top
omit W in
theorem push_start {l : List α} {x : α} (h : Heap lt z l l.length) : UpI lt z (l ++ [x]) l.length := by
  have g : ∀ c, c < l.length → (l ++ [x]).getD c z = l.getD c z := fun c hc => by
    rw [List.getD_eq_getElem?_getD, List.getD_eq_getElem?_getD, List.getElem?_append_left hc]
  refine ⟨fun c c0 c1 ce => ?_, fun c c0 c1 cp j0 => ?_⟩
  · simp only [List.length_append, List.length_singleton] at c1
    rw [g c (by omega), g _ (by omega)]
    exact h c c0 (by omega)
  · simp only [List.length_append, List.length_singleton] at c1
    omega
structure DnI (lt : α → α → Bool) (z : α) (l : List α) (i n : Nat) : Prop where
  a : ∀ c, 0 < c → c < n → (c - 1) / 2 ≠ i → lt (l.getD c z) (l.getD ((c - 1) / 2) z) = false
  b : ∀ c, 0 < c → c < n → (c - 1) / 2 = i → 0 < i → lt (l.getD c z) (l.getD ((i - 1) / 2) z) = false
omit W in
theorem dn_end0 {l : List α} {i n : Nat} (h : DnI lt z l i n) (hi : n ≤ 2 * i + 1) : Heap lt z l n := fun c c0 c1 => h.a c c0 c1 (by omega)
/-- j is the lesser child. -/
def Kid (lt : α → α → Bool) (z : α) (l : List α) (i n j : Nat) : Prop := (j - 1) / 2 = i ∧ 0 < j ∧ j < n ∧ ∀ c, 0 < c → c < n → (c - 1) / 2 = i → c ≠ j → lt (l.getD c z) (l.getD j z) = false
theorem dn_end {l : List α} {i n j : Nat} (h : DnI lt z l i n) (k : Kid lt z l i n j) (hl : lt (l.getD j z) (l.getD i z) = false) : Heap lt z l n := fun c c0 c1 => by
  by_cases e : (c - 1) / 2 = i
  · rw [e]
    by_cases ej : c = j
    · rw [ej]; exact hl
    · exact W.neg _ _ _ (k.2.2.2 c c0 c1 e ej) hl
  · exact h.a c c0 c1 e
theorem dn_step {l : List α} {i n j : Nat} (hn : n ≤ l.length) (h : DnI lt z l i n) (k : Kid lt z l i n j) (hl : lt (l.getD j z) (l.getD i z) = true) : DnI lt z (swp z l i j) j n := by
  obtain ⟨k1, k2, k3, k4⟩ := k
  have hi : i < l.length := by omega
  have hj : j < l.length := by omega
  have asy := W.asym _ _ hl
  refine ⟨fun c c0 c1 ce => ?_, fun c c0 c1 cp j0 => ?_⟩
  · rw [swp_get hi hj, swp_get hi hj]
    by_cases e1 : c = j
    · subst e1
      rw [if_pos rfl, k1, if_neg (by omega), if_pos rfl]
      exact asy
    · rw [if_neg e1, if_neg ce]
      by_cases e2 : c = i
      · subst e2
        rw [if_pos rfl, if_neg (by omega)]
        exact h.b j k2 k3 k1 c0
      · rw [if_neg e2]
        by_cases e3 : (c - 1) / 2 = i
        · rw [if_pos e3]
          exact k4 c c0 c1 e3 e1
        · rw [if_neg e3]
          exact h.a c c0 c1 e3
  · rw [swp_get hi hj, swp_get hi hj, k1, if_neg (by omega), if_neg (by omega), if_neg (by omega), if_pos rfl]
    have := h.a c c0 c1 (by omega)
    rw [cp] at this
    exact this
/-- The first one is the least. -/
theorem heap_least {l : List α} {n : Nat} (h : Heap lt z l n) : ∀ (m c : Nat), c ≤ m → c < n → lt (l.getD c z) (l.getD 0 z) = false
  | m, c, hm, hc => by
    by_cases c0 : c = 0
    · subst c0
      cases e : lt (l.getD 0 z) (l.getD 0 z) with
      | false => rfl
      | true => exact absurd e (by rw [W.asym _ _ e]; decide)
    · have a := h c (by omega) hc
      have b := heap_least h (m - 1) ((c - 1) / 2) (by omega) (by omega)
      exact W.neg _ _ _ a b
termination_by m => m
decreasing_by omega
omit W in
/-- The last one laid to the front, ahead of going down. -/
theorem pop_start {l : List α} {n : Nat} (hl : l.length = n + 1) (h : Heap lt z l (n + 1)) : DnI lt z (swp z l 0 n) 0 n := by
  refine ⟨fun c c0 c1 ce => ?_, fun c c0 c1 cp j0 => by omega⟩
  rw [swp_get (by omega) (by omega), swp_get (by omega) (by omega), if_neg (by omega), if_neg (by omega), if_neg (by omega), if_neg (by omega)]
  exact h c c0 (by omega)
end
end Go.Proofs.Ytnlajjeppdchiaa.E.Hp
namespace Go.Proofs.Ytnlajjeppdchiaa.E
open Go
set_option linter.unusedVariables false
set_option linter.unusedSimpArgs false
set_option maxRecDepth 100000
open Hp (swp swp_len swp_get swp_perm getD_get)
abbrev Qe : Type := Int × Int
def qlt (a b : Qe) : Bool := decide (a.1 < b.1)
theorem qlw : Hp.Lw qlt := ⟨fun a b h => by
  have := of_decide_eq_true h
  exact decide_eq_false (by omega), fun a b c h1 h2 => by
  have := of_decide_eq_false h1
  have := of_decide_eq_false h2
  exact decide_eq_false (by omega)⟩
abbrev qz : Qe := (0, 0)
abbrev QHeap (l : List Qe) : Prop := Hp.Heap qlt qz l l.length
theorem inb {i n : Nat} (h : i < n) : (decide (0 ≤ (i : Int)) && decide ((i : Int) < (n : Int))) = true := by rw [decide_eq_true (show 0 ≤ (i : Int) by omega), decide_eq_true (show (i : Int) < (n : Int) by omega)]; rfl
theorem qLess {l : List Qe} {i j : Nat} (hi : i < l.length) (hj : j < l.length) : N67 (l, (i : Int), (j : Int), ()) = some (qlt (l.getD i qz) (l.getD j qz), l, ()) := by
  unfold N67 M67
  simp only []
  rw [inb hi, inb hj]
  simp only [Int.toNat_natCast, List.getElem?_eq_getElem hi, List.getElem?_eq_getElem hj, Option.bind_some, cond_true]
  rw [getD_get hi, getD_get hj]
  rfl
theorem qSwap {l : List Qe} {i j : Nat} (hi : i < l.length) (hj : j < l.length) : N70 (l, (i : Int), (j : Int), ()) = some (swp qz l i j, ()) := by
  unfold N70 M70
  simp only [List.length_set]
  rw [inb hi, inb hj]
  simp only [Int.toNat_natCast, List.getElem?_eq_getElem hi, List.getElem?_eq_getElem hj, Option.bind_some, cond_true]
  have h2 : j < (l.set i (l[j].1, l[j].2)).length := by simpa using hj
  rw [List.getElem?_eq_getElem h2]
  simp only [Option.bind_some]
  unfold swp
  rw [getD_get hi, getD_get hj]
theorem qLen (l : List Qe) : N25 (l, ()) = some ((l.length : Int), l, ()) := rfl
theorem qUp : ∀ (m : Nat) (l : List Qe) (j : Nat), j ≤ m → j < l.length → l.length ≤ 1000000000 → Hp.UpI qlt qz l j → ∃ l', itr R34_0 (m + 1) ((l, ()), (j : Int), ()) = some ((l', ()), ()) ∧ QHeap l' ∧ l'.Perm l ∧ l'.length = l.length
  | m, l, j, hm, hj, hl, h => by
    have hp : IntKind.wrap .i64 (Int.tdiv (IntKind.wrap .i64 ((j : Int) - 1)) 2) = (((j - 1) / 2 : Nat) : Int) := by
      rw [wsi (n := (j : Int) - 1) (by omega)]
      by_cases j0 : j = 0
      · subst j0; rfl
      · rw [tdiv_pos (by omega), wsi (by omega)]; omega
    by_cases j0 : j = 0
    · refine ⟨l, ?_, Hp.up_end qlw h (.inl j0), .refl _, rfl⟩
      refine itr_out ?_
      unfold R34_0 Q34_0
      simp only []
      rw [hp, bif_t (show ((((j - 1) / 2 : Nat) : Int) == (j : Int)) = true from by simp; omega)]
    · have hi : (j - 1) / 2 < l.length := by omega
      have hs := qSwap hi hj
      cases hc : qlt (l.getD j qz) (l.getD ((j - 1) / 2) qz) with
      | false =>
        refine ⟨l, ?_, Hp.up_end qlw h (.inr hc), .refl _, rfl⟩
        refine itr_out ?_
        unfold R34_0 Q34_0
        simp only []
        rw [hp, bif_f (show ((((j - 1) / 2 : Nat) : Int) == (j : Int)) = false from by simp; omega), qLess hj hi, hc]
        rfl
      | true =>
        have hr : R34_0 ((l, ()), (j : Int), ()) = some (.inl ((swp qz l ((j - 1) / 2) j, ()), (((j - 1) / 2 : Nat) : Int), ())) := by
          unfold R34_0 Q34_0
          simp only []
          rw [hp, bif_f (show ((((j - 1) / 2 : Nat) : Int) == (j : Int)) = false from by simp; omega), qLess hj hi, hc]
          simp only [Option.bind_some, Bool.not_true, cond_false]
          rw [hs]
          rfl
        have ln := swp_len (z := qz) l ((j - 1) / 2) j
        cases m with
        | zero => omega
        | succ m =>
          obtain ⟨l', e, a, b, c⟩ := qUp m (swp qz l ((j - 1) / 2) j) ((j - 1) / 2) (by omega) (by omega) (by omega) (Hp.up_step qlw h (by omega) hj hc)
          exact ⟨l', by rw [itr_in hr, e], a, b.trans (swp_perm hi hj), by omega⟩
theorem qPush {l : List Qe} {x : Qe} (h : QHeap l) (hl : l.length < 1000000000) : ∃ l', N24 ((l, ()), x, ()) = some ((l', ()), ()) ∧ QHeap l' ∧ l'.Perm (l ++ [x]) ∧ l'.length = l.length + 1 := by
  obtain ⟨x0, x1⟩ := x
  obtain ⟨l', e, a, b, c⟩ := qUp l.length (l ++ [(x0, x1)]) l.length (Nat.le_refl _) (by simp) (by simp; omega) (Hp.push_start h)
  refine ⟨l', ?_, a, b, by rw [c]; simp⟩
  unfold N24 M24 N69 M69
  simp only []
  rw [bif_t (decide_eq_true (by omega))]
  simp only [Option.bind_some]
  rw [qLen]
  simp only [Option.bind_some]
  rw [wsi (by simp; omega), show ((l ++ [(x0, x1)]).length : Int) - 1 = (l.length : Int) from by simp]
  unfold N34 M34
  simp only []
  rw [itrs_of e (by omega)]
  rfl
theorem kid_of {l : List Qe} {i n : Nat} (h1 : 2 * i + 1 < n) : Hp.Kid qlt qz l i n (if 2 * i + 2 < n ∧ qlt (l.getD (2 * i + 2) qz) (l.getD (2 * i + 1) qz) = true then 2 * i + 2 else 2 * i + 1) := by
  split
  · rename_i h
    refine ⟨by omega, by omega, h.1, fun c c0 c1 cp ce => ?_⟩
    rw [show c = 2 * i + 1 from by omega]
    exact qlw.asym _ _ h.2
  · rename_i h
    refine ⟨by omega, by omega, h1, fun c c0 c1 cp ce => ?_⟩
    have ec : c = 2 * i + 2 := by omega
    subst ec
    cases hq : qlt (l.getD (2 * i + 2) qz) (l.getD (2 * i + 1) qz) with
    | false => rfl
    | true => exact absurd ⟨c1, hq⟩ h
theorem qDown (i0 : Int) : ∀ (m : Nat) (l : List Qe) (i n : Nat), n ≤ i + m → n ≤ l.length → l.length ≤ 1000000000 → i ≤ n → Hp.DnI qlt qz l i n → ∃ l' k, itr R35_0 (m + 1) ((l, ()), i0, (n : Int), (i : Int), ()) = some ((l', ()), i0, k, ()) ∧ Hp.Heap qlt qz l' n ∧ l'.Perm l ∧ l'.length = l.length ∧ ∀ c, n ≤ c → l'.getD c qz = l.getD c qz
  | m, l, i, n, hm, hn, hl, hin, h => by
    have p1 : IntKind.wrap .i64 (IntKind.wrap .i64 (2 * (i : Int)) + 1) = ((2 * i + 1 : Nat) : Int) := by
      rw [wsi (n := 2 * (i : Int)) (by omega), wsi (by omega)]; omega
    have p2 : IntKind.wrap .i64 (((2 * i + 1 : Nat) : Int) + 1) = ((2 * i + 2 : Nat) : Int) := by rw [wsi (by omega)]; omega
    by_cases h1 : 2 * i + 1 < n
    rotate_left
    · refine ⟨l, (i : Int), ?_, Hp.dn_end0 h (by omega), .refl _, rfl, fun _ _ => rfl⟩
      refine itr_out ?_
      unfold R35_0 Q35_0
      simp only []
      rw [p1, bif_t (decide_eq_true (by omega))]
    have kid := kid_of (l := l) h1
    have hi : i < l.length := by omega
    have hj1 : 2 * i + 1 < l.length := by omega
    generalize hjv : (if 2 * i + 2 < n ∧ qlt (l.getD (2 * i + 2) qz) (l.getD (2 * i + 1) qz) = true then 2 * i + 2 else 2 * i + 1) = j at kid
    have hj : j < l.length := by have := kid.2.2.1; omega
    have hs := qSwap hi hj
    have hr : R35_0 ((l, ()), i0, (n : Int), (i : Int), ()) = (bif qlt (l.getD j qz) (l.getD i qz) then some (.inl ((swp qz l i j, ()), i0, (n : Int), (j : Int), ())) else some (.inr ((l, ()), i0, (i : Int), ()))) := by
      unfold R35_0 Q35_0
      simp only []
      rw [p1, p2, bif_f (decide_eq_false (by omega)), bif_f (decide_eq_false (by omega))]
      by_cases h2 : 2 * i + 2 < n
      · have hj2 : 2 * i + 2 < l.length := by omega
        rw [bif_t (decide_eq_true (by omega)), qLess hj2 hj1]
        simp only [Option.bind_some]
        cases hq : qlt (l.getD (2 * i + 2) qz) (l.getD (2 * i + 1) qz) with
        | true =>
          rw [if_pos ⟨h2, hq⟩] at hjv
          subst hjv
          simp only [cond_true]
          rw [qLess hj2 hi]
          simp only [Option.bind_some]
          rw [hs]
          cases qlt (l.getD (2 * i + 2) qz) (l.getD i qz) <;> rfl
        | false =>
          rw [if_neg (by rw [hq]; simp)] at hjv
          subst hjv
          simp only [cond_false]
          rw [qLess hj1 hi]
          simp only [Option.bind_some]
          rw [hs]
          cases qlt (l.getD (2 * i + 1) qz) (l.getD i qz) <;> rfl
      · rw [if_neg (by omega)] at hjv
        subst hjv
        rw [bif_f (decide_eq_false (by omega)), qLess hj1 hi]
        simp only [Option.bind_some]
        rw [hs]
        cases qlt (l.getD (2 * i + 1) qz) (l.getD i qz) <;> rfl
    cases hc : qlt (l.getD j qz) (l.getD i qz) with
    | false =>
      rw [hc] at hr
      exact ⟨l, (i : Int), itr_out hr, Hp.dn_end qlw h kid hc, .refl _, rfl, fun _ _ => rfl⟩
    | true =>
      rw [hc] at hr
      have ln := swp_len (z := qz) l i j
      have kj := kid.2.2.1
      have kj1 := kid.1
      have kj0 := kid.2.1
      cases m with
      | zero => omega
      | succ m =>
        obtain ⟨l', k, e, a, b, c, d⟩ := qDown i0 m (swp qz l i j) j n (by omega) (by omega) (by omega) (by omega) (Hp.dn_step qlw hn h kid hc)
        refine ⟨l', k, by rw [itr_in hr, e], a, b.trans (swp_perm hi hj), by omega, fun x hx => ?_⟩
        rw [d x hx, swp_get hi hj, if_neg (by omega), if_neg (by omega)]
theorem qPop {l : List Qe} (h : QHeap l) (h0 : 0 < l.length) (hl : l.length ≤ 1000000000) : ∃ l', N26 ((l, ()), ()) = some (l.getD 0 qz, (l', ()), ()) ∧ QHeap l' ∧ l.Perm (l.getD 0 qz :: l') ∧ l'.length + 1 = l.length ∧ ∀ x ∈ l', (l.getD 0 qz).1 ≤ x.1 := by
  obtain ⟨n, hn⟩ : ∃ n, l.length = n + 1 := ⟨l.length - 1, by omega⟩
  have hh : Hp.Heap qlt qz l (n + 1) := by rw [← hn]; exact h
  have st := Hp.pop_start hn hh
  have ln := swp_len (z := qz) l 0 n
  obtain ⟨l1, k, e, a, b, c, d⟩ := qDown 0 n (swp qz l 0 n) 0 n (by omega) (by omega) (by omega) (by omega) st
  have hl1 : l1.length = n + 1 := by omega
  have last : l1.getD n qz = l.getD 0 qz := by
    rw [d n (Nat.le_refl _), swp_get (by omega) (by omega), if_pos rfl]
  have cut : l1 = l1.take n ++ [l.getD 0 qz] := by
    rw [← last, getD_get (by omega), ← List.take_succ_eq_append_getElem (by omega), List.take_of_length_le (by omega)]
  have lt : (l1.take n).length = n := by rw [List.length_take]; omega
  have pm : l.Perm (l.getD 0 qz :: l1.take n) := by
    have := (swp_perm (z := qz) (show 0 < l.length by omega) (show n < l.length by omega)).symm.trans b.symm
    rw [cut] at this
    exact this.trans (List.perm_append_singleton _ _)
  refine ⟨l1.take n, ?_, ?_, pm, by omega, fun x hx => ?_⟩
  · have s := qSwap (l := l) (i := 0) (j := n) (by omega) (by omega)
    unfold N26 M26
    simp only []
    rw [qLen]
    simp only [Option.bind_some]
    rw [hn, wsi (by omega), show ((n + 1 : Nat) : Int) - 1 = (n : Int) from by omega]
    have s : N70 (l, 0, (n : Int), ()) = _ := s
    rw [s]
    simp only [Option.bind_some]
    have dn : N35 ((swp qz l 0 n, ()), 0, (n : Int), ()) = some (decide (k > 0), (l1, ()), ()) := by
      unfold N35 M35
      simp only []
      have e : itr R35_0 (n + 1) ((swp qz l 0 n, ()), 0, (n : Int), 0, ()) = _ := e
      rw [itrs_of e (by omega)]
      rfl
    rw [dn]
    simp only [Option.bind_some]
    unfold N68 M68
    simp only []
    rw [hl1, wsi (by omega), show ((n + 1 : Nat) : Int) - 1 = (n : Int) from by omega, inb (show n < n + 1 by omega)]
    simp only [cond_true, Option.bind_some, Int.toNat_natCast, Nat.sub_zero]
    rw [List.getElem?_eq_getElem (show n < l1.length by omega)]
    simp only [Option.bind_some]
    rw [bif_t (show (true && decide (0 ≤ (n : Int)) && decide ((n : Int) ≤ ((n + 1 : Nat) : Int))) = true from by rw [decide_eq_true (show 0 ≤ (n : Int) by omega), decide_eq_true (show (n : Int) ≤ ((n + 1 : Nat) : Int) by omega)]; rfl)]
    simp only [Option.bind_some]
    rw [bif_t (show Nat.ble n (n + 1) = true from Nat.ble_eq_true_of_le (by omega))]
    simp only [Option.bind_some]
    rw [← last, getD_get (show n < l1.length by omega)]
  · show Hp.Heap qlt qz (l1.take n) (l1.take n).length
    rw [lt]
    intro x x0 x1
    have g : ∀ y, y < n → (l1.take n).getD y qz = l1.getD y qz := fun y hy => by
      rw [List.getD_eq_getElem?_getD, List.getD_eq_getElem?_getD, List.getElem?_take_of_lt hy]
    rw [g x x1, g _ (by omega)]
    exact a x x0 x1
  · have hm : x ∈ l := pm.symm.subset (List.mem_cons_of_mem _ hx)
    obtain ⟨c, hc, rfl⟩ := List.getElem_of_mem hm
    have := Hp.heap_least qlw h c c (Nat.le_refl _) hc
    rw [getD_get hc] at this
    have := of_decide_eq_false this
    omega
end Go.Proofs.Ytnlajjeppdchiaa.E
namespace Go.Proofs.Ytnlajjeppdchiaa.E
open Go
set_option linter.unusedVariables false
set_option linter.unusedSimpArgs false
set_option maxRecDepth 100000
abbrev Pc : Type := Int × (Int × Int) × (Int × Int) × (Int × Int)
abbrev Tb : Type := Int × Int × List Pc
def fr1 (t : Tb) : List Int := t.2.2.map (·.1)
def froms (ts : List Tb) : List Int := ts.flatMap fr1
/-- The places, each once, rising. -/
structure Cut (S C : List Int) : Prop where
  s : C.Pairwise (· < ·)
  m : ∀ x, x ∈ C ↔ x ∈ S
theorem cut_unique : ∀ (a b : List Int), a.Pairwise (· < ·) → b.Pairwise (· < ·) → (∀ x, x ∈ a ↔ x ∈ b) → a = b
  | [], [], _, _, _ => rfl
  | [], y :: b, _, _, h => by have := (h y).2 (by simp); cases this
  | x :: a, [], _, _, h => by have := (h x).1 (by simp); cases this
  | x :: a, y :: b, ha, hb, h => by
    obtain ⟨ha1, ha2⟩ := List.pairwise_cons.1 ha
    obtain ⟨hb1, hb2⟩ := List.pairwise_cons.1 hb
    have hx := (h x).1 (by simp)
    have hy := (h y).2 (by simp)
    have e : x = y := by
      rcases List.mem_cons.1 hx with e | e
      · exact e
      · rcases List.mem_cons.1 hy with f | f
        · exact f.symm
        · have := hb1 x e
          have := ha1 y f
          omega
    subst e
    rw [cut_unique a b ha2 hb2 fun z => ⟨fun hz => ?_, fun hz => ?_⟩]
    · have := ha1 z hz
      rcases List.mem_cons.1 ((h z).1 (by simp [hz])) with e | e
      · omega
      · exact e
    · have := hb1 z hz
      rcases List.mem_cons.1 ((h z).2 (by simp [hz])) with e | e
      · omega
      · exact e
/-! ### the program -/
def en (p : Pc) : Qe := (p.1, 0)
theorem c_pieces (ts : List Tb) (a b : Int) (ps : List Pc) : ∀ (m j : Nat) (q : List Qe), j + m = ps.length → QHeap q → q.length + m ≤ 1000000 → ps.length ≤ 140737488355328 →
    ∃ q', itr R12_2 (m + 1) ((q, ()), ts, a, b, ps, (ps.length : Int), (j : Int), ()) = some ((q', ()), ts, a, b, ()) ∧ QHeap q' ∧ q'.Perm (q ++ (ps.drop j).map en) ∧ q'.length = q.length + m
  | 0, j, q, hj, hq, hl, hp => by
    refine ⟨q, itr_out ?_, hq, ?_, rfl⟩
    · unfold R12_2 Q12_2
      simp only []
      rw [bif_f (decide_eq_false (by omega))]
    · rw [List.drop_eq_nil_of_le (by omega)]
      simp
  | m + 1, j, q, hj, hq, hl, hp => by
    obtain ⟨q1, e, h1, p1, l1⟩ := qPush (x := en ps[j]) hq (by omega)
    obtain ⟨q', e', h', p', l'⟩ := c_pieces ts a b ps m (j + 1) q1 (by omega) h1 (by omega) hp
    refine ⟨q', ?_, h', ?_, by omega⟩
    · rw [← e']
      refine itr_in ?_
      have hjl : j < ps.length := by omega
      have hg := at_get hjl
      generalize ps[j] = p at *
      obtain ⟨p0, ⟨p1, p2⟩, ⟨p3, p4⟩, p5, p6⟩ := p
      unfold R12_2 Q12_2
      simp only []
      rw [bif_t (decide_eq_true (by omega)), hg]
      simp only [Option.bind_some]
      have e : N24 ((q, ()), (p0, 0), ()) = _ := e
      rw [e]
      simp only [Option.bind_some]
      rw [wsi (by omega)]
      rfl
    · rw [List.drop_eq_getElem_cons (show j < ps.length by omega), List.map_cons]
      refine p'.trans ?_
      refine (p1.append_right _).trans ?_
      rw [List.append_assoc]
      exact .refl _
theorem c_tables (ts : List Tb) (hps : ∀ t ∈ ts, t.2.2.length ≤ 140737488355328) : ∀ (m j : Nat) (q : List Qe), j + m = ts.length → QHeap q → q.length + (froms (ts.drop j)).length ≤ 1000000 → ts.length ≤ 140737488355328 →
    ∃ q', itr R12_0 (m + 1) ((q, ()), ts, (ts.length : Int), (j : Int), ()) = some ((q', ()), ()) ∧ QHeap q' ∧ q'.Perm (q ++ (froms (ts.drop j)).map fun x => (x, 0)) ∧ q'.length = q.length + (froms (ts.drop j)).length
  | 0, j, q, hj, hq, hl, hp => by
    refine ⟨q, itr_out ?_, hq, ?_, ?_⟩
    · unfold R12_0 Q12_0
      simp only []
      rw [bif_f (decide_eq_false (by omega))]
    · rw [List.drop_eq_nil_of_le (by omega)]
      simp [froms]
    · rw [List.drop_eq_nil_of_le (by omega)]
      simp [froms]
  | m + 1, j, q, hj, hq, hl, hp => by
    have hjl : j < ts.length := by omega
    have hd : froms (ts.drop j) = fr1 ts[j] ++ froms (ts.drop (j + 1)) := by rw [List.drop_eq_getElem_cons hjl]; rfl
    rw [hd, List.length_append] at hl
    have hfl : (fr1 ts[j]).length = ts[j].2.2.length := by simp [fr1]
    obtain ⟨q1, e, h1, p1, l1⟩ := c_pieces ts (ts.length : Int) (j : Int) ts[j].2.2 ts[j].2.2.length 0 q (by omega) hq (by omega) (hps _ (List.getElem_mem hjl))
    obtain ⟨q', e', h', p', l'⟩ := c_tables ts hps m (j + 1) q1 (by omega) h1 (by omega) hp
    refine ⟨q', ?_, h', ?_, ?_⟩
    · rw [← e']
      refine itr_in ?_
      have hg := at_get hjl
      have hpl := hps _ (List.getElem_mem hjl)
      generalize ts[j] = t at *
      obtain ⟨t0, t1, ps⟩ := t
      unfold R12_0 Q12_0
      simp only [] at e hpl ⊢
      rw [bif_t (decide_eq_true (by omega)), hg]
      simp only [Option.bind_some]
      have e := itrs_of e (by omega)
      rw [show ((0 : Nat) : Int) = 0 from rfl] at e
      rw [e]
      simp only [Option.bind_some]
      rw [wsi (by omega)]
      rfl
    · rw [hd, List.map_append]
      refine p'.trans ((p1.append_right _).trans ?_)
      rw [List.append_assoc, List.drop_zero]
      unfold fr1 en
      rw [List.map_map]
      exact .refl _
    · rw [hd, List.length_append]
      omega
theorem c_out : ∀ (m : Nat) (q : List Qe) (out : List Int), q.length = m → QHeap q → q.length + out.length ≤ 1000000 → out.Pairwise (· < ·) → (∀ e ∈ q, ∀ y ∈ out, y ≤ e.1) →
    ∃ C, itr R12_4 (m + 1) ((q, ()), out, ()) = some (C, ()) ∧ C.Pairwise (· < ·) ∧ (∀ x, x ∈ C ↔ (x ∈ out ∨ ∃ e ∈ q, e.1 = x)) ∧ C.length ≤ q.length + out.length
  | 0, q, out, hm, hq, hl, ho, hle => by
    have : q = [] := List.eq_nil_of_length_eq_zero hm
    subst this
    refine ⟨out, itr_out ?_, ho, by simp, by simp⟩
    unfold R12_4 Q12_4
    simp only []
    rw [qLen]
    rfl
  | m + 1, q, out, hm, hq, hl, ho, hle => by
    obtain ⟨q', e, h', pm, lm, least⟩ := qPop hq (by omega) (by omega)
    have h0 : q.getD 0 qz ∈ q := pm.symm.subset (by simp)
    generalize q.getD 0 qz = x at *
    obtain ⟨x0, x1⟩ := x
    simp only at least
    have hq' : ∀ e ∈ q', e ∈ q := fun e he => pm.symm.subset (by simp [he])
    have mem : ∀ z, (∃ e ∈ q, e.1 = z) ↔ z = x0 ∨ ∃ e ∈ q', e.1 = z := fun z => by
      constructor
      · rintro ⟨e, he, rfl⟩
        rcases List.mem_cons.1 (pm.subset he) with rfl | h
        · exact .inl rfl
        · exact .inr ⟨e, h, rfl⟩
      · rintro (rfl | ⟨e, he, rfl⟩)
        · exact ⟨_, h0, rfl⟩
        · exact ⟨e, hq' e he, rfl⟩
    -- laid behind, or not
    have lay : (∀ y ∈ out, y < x0) → ∃ C, itr R12_4 (m + 1) ((q', ()), out ++ [x0], ()) = some (C, ()) ∧ C.Pairwise (· < ·) ∧ (∀ x, x ∈ C ↔ (x ∈ out ∨ ∃ e ∈ q, e.1 = x)) ∧ C.length ≤ q.length + out.length := fun hlt => by
      obtain ⟨C, a, b, c, d⟩ := c_out m q' (out ++ [x0]) (by omega) h' (by simp; omega) (List.pairwise_append.2 ⟨ho, by simp, fun y hy z hz => by rw [List.mem_singleton.1 hz]; exact hlt y hy⟩) (fun e he y hy => by
        rcases List.mem_append.1 hy with h | h
        · exact hle e (hq' e he) y h
        · rw [List.mem_singleton.1 h]; exact least e he)
      refine ⟨C, a, b, fun z => ?_, by simp at d; omega⟩
      rw [c z, mem z, List.mem_append, List.mem_singleton, or_assoc]
    have hcons : out.length = 0 ∨ ∃ o a, out = o ++ [a] := by
      rcases List.eq_nil_or_concat out with h | ⟨o, a, h⟩
      · exact .inl (by rw [h]; rfl)
      · exact .inr ⟨o, a, by rw [h]; simp⟩
    rcases hcons with h | ⟨o, a, rfl⟩
    · have : out = [] := List.eq_nil_of_length_eq_zero h
      subst this
      obtain ⟨C, c1, c2⟩ := lay (fun y hy => by cases hy)
      refine ⟨C, ?_, c2⟩
      rw [← c1]
      refine itr_in ?_
      unfold R12_4 Q12_4
      simp only []
      rw [qLen]
      simp only [Option.bind_some]
      rw [bif_t (decide_eq_true (by omega)), e]
      rfl
    · have hi : o.length < (o ++ [a]).length := by simp
      have hget : (o ++ [a])[o.length]? = some a := by simp
      have pw := List.pairwise_append.1 ho
      have hlast : ∀ y ∈ o, y < a := fun y hy => pw.2.2 y hy a (by simp)
      have hax := hle _ h0 a (by simp)
      simp only at hax
      have hr : R12_4 ((q, ()), o ++ [a], ()) = (bif a != x0 then some (.inl ((q', ()), o ++ [a] ++ [x0], ())) else some (.inl ((q', ()), o ++ [a], ()))) := by
        unfold R12_4 Q12_4
        simp only []
        rw [qLen]
        simp only [Option.bind_some]
        rw [bif_t (decide_eq_true (by omega)), e]
        simp only [Option.bind_some]
        rw [bif_f (show (((o ++ [a]).length : Int) == 0) = false from by simp; omega), wsi (by simp at hl ⊢; omega), show ((o ++ [a]).length : Int) - 1 = (o.length : Int) from by simp, inb hi]
        simp only [cond_true, Option.bind_some, Int.toNat_natCast]
        rw [hget]
        simp only [Option.bind_some]
        rw [bif_t (decide_eq_true (by simp at hl ⊢; omega))]
        rfl
      by_cases hx : a = x0
      · rw [bif_f (show (a != x0) = false from by simpa using hx)] at hr
        obtain ⟨C, c1, c2, c3, c4⟩ := c_out m q' (o ++ [a]) (by omega) h' (by omega) ho (fun e he y hy => hle e (hq' e he) y hy)
        refine ⟨C, by rw [itr_in hr, c1], c2, fun z => ?_, by omega⟩
        rw [c3 z, mem z]
        constructor
        · rintro (h | h)
          · exact .inl h
          · exact .inr (.inr h)
        · rintro (h | h | h)
          · exact .inl h
          · exact .inl (by rw [h, ← hx]; simp)
          · exact .inr h
      · rw [bif_t (show (a != x0) = true from by simpa using hx)] at hr
        obtain ⟨C, c1, c2⟩ := lay (fun y hy => by
          rcases List.mem_append.1 hy with h | h
          · have := hlast y h; omega
          · rw [List.mem_singleton.1 h]; omega)
        exact ⟨C, by rw [itr_in hr, c1], c2⟩
theorem eCuts {ts : List Tb} (hps : ∀ t ∈ ts, t.2.2.length ≤ 140737488355328) (ht : ts.length ≤ 140737488355328) (hf : (froms ts).length ≤ 4096) : ∃ C, N12 (ts, ()) = some (C, ()) ∧ Cut (froms ts) C ∧ C.length ≤ 4096 := by
  obtain ⟨q, e, h, p, l⟩ := c_tables ts hps ts.length 0 [] (by omega) (fun c c0 c1 => by simp at c1) (by simpa using (show (froms ts).length ≤ 1000000 by omega)) ht
  rw [List.drop_zero] at p l
  simp only [List.length_nil, Nat.zero_add] at l
  obtain ⟨C, e2, s, m, lC⟩ := c_out q.length q [] rfl h (by simp; omega) (by simp) (fun e he y hy => by cases hy)
  refine ⟨C, ?_, ⟨s, fun x => ?_⟩, by simp at lC; omega⟩
  · unfold N12 M12
    simp only []
    have e := itrs_of e (by omega)
    rw [show ((0 : Nat) : Int) = 0 from rfl] at e
    rw [e]
    simp only [Option.bind_some]
    rw [itrs_of e2 (by omega)]
    rfl
  · rw [m x]
    constructor
    · rintro (h | ⟨e, he, rfl⟩)
      · cases h
      · have := p.subset he
        rw [List.nil_append, List.mem_map] at this
        obtain ⟨y, hy, rfl⟩ := this
        exact hy
    · intro hx
      exact .inr ⟨(x, 0), p.symm.subset (by rw [List.nil_append, List.mem_map]; exact ⟨x, hx, rfl⟩), rfl⟩
end Go.Proofs.Ytnlajjeppdchiaa.E
namespace Go.Proofs.Ytnlajjeppdchiaa.E
open Go
set_option linter.unusedVariables false
set_option linter.unusedSimpArgs false
set_option linter.unusedSectionVars false
set_option maxRecDepth 100000
theorem len0 {γ : Type} {l : List γ} (h : l.length = 0) : ((l.length : Int) == 0) = true := by rw [h]; rfl
theorem lenN {γ : Type} {l : List γ} (h : l.length ≠ 0) : ((l.length : Int) == 0) = false := by rw [beq_eq_false_iff_ne]; omega
/-- A look for the least place that is let in. -/
def scan (ab : Int → Bool) (st : Bool × Int) (f : Int) : Bool × Int := if ab f = true ∧ (st.1 = false ∨ f < st.2) then (true, f) else st
structure Seen (ab : Int → Bool) (l : List Int) (st : Bool × Int) : Prop where
  a : st.1 = false → ∀ f ∈ l, ab f = false
  b : st.1 = true → st.2 ∈ l ∧ ab st.2 = true ∧ ∀ f ∈ l, ab f = true → st.2 ≤ f
theorem scan_seen {ab : Int → Bool} : ∀ (l pre : List Int) (st : Bool × Int), Seen ab pre st → Seen ab (pre ++ l) (l.foldl (scan ab) st)
  | [], pre, st, h => by rw [List.append_nil]; exact h
  | f :: l, pre, st, h => by
    rw [List.foldl_cons, show pre ++ f :: l = (pre ++ [f]) ++ l from by simp]
    refine scan_seen l (pre ++ [f]) _ ?_
    obtain ⟨s0, s1⟩ := st
    unfold scan
    by_cases hc : ab f = true ∧ (s0 = false ∨ f < s1)
    · rw [if_pos hc]
      refine ⟨fun e => (by cases e), fun _ => ⟨by simp, hc.1, fun g hg ag => ?_⟩⟩
      rcases List.mem_append.1 hg with hg | hg
      · rcases hc.2 with e | e
        · have := h.a e g hg
          rw [ag] at this
          cases this
        · cases hs : s0 with
          | false => have := h.a hs g hg; rw [ag] at this; cases this
          | true =>
            have := (h.b hs).2.2 g hg ag
            simp only at this ⊢
            omega
      · rw [List.mem_singleton.1 hg]
        exact Int.le_refl _
    · rw [if_neg hc]
      refine ⟨fun e g hg => ?_, fun e => ?_⟩
      · rcases List.mem_append.1 hg with hg | hg
        · exact h.a e g hg
        · rw [List.mem_singleton.1 hg]
          cases hf : ab f with
          | false => rfl
          | true => exact absurd ⟨hf, .inl e⟩ hc
      · obtain ⟨b1, b2, b3⟩ := h.b e
        refine ⟨by simp [b1], b2, fun g hg ag => ?_⟩
        rcases List.mem_append.1 hg with hg | hg
        · exact b3 g hg ag
        · rw [List.mem_singleton.1 hg] at ag ⊢
          simp only
          by_cases hl : f < s1
          · exact absurd ⟨ag, .inr hl⟩ hc
          · omega
/-- What lies behind the last place. -/
def abv (out : List Int) (f : Int) : Bool := decide (out.length = 0) || decide (f > out.getD (out.length - 1) 0)
section
variable (ts : List Tb) (out : List Int) (hts : ts.length ≤ 140737488355328) (hps : ∀ t ∈ ts, t.2.2.length ≤ 140737488355328) (ho : out.length ≤ 140737488355328)
include hts hps ho
theorem r_pieces {i : Nat} (hi : i < ts.length) : ∀ (m k : Nat) (st : Bool × Int), k + m = ts[i].2.2.length → itr R13_4 (m + 1) (ts, out, st.1, st.2, (i : Int), (k : Int), ()) = some (ts, out, (((fr1 ts[i]).drop k).foldl (scan (abv out)) st).1, (((fr1 ts[i]).drop k).foldl (scan (abv out)) st).2, (i : Int), ())
  | 0, k, st, hk => by
    have hg := at_get hi
    rw [List.drop_eq_nil_of_le (by simp [fr1]; omega)]
    generalize ts[i] = t at *
    obtain ⟨t0, t1, ps⟩ := t
    refine itr_out ?_
    unfold R13_4 Q13_4
    simp only [] at hk ⊢
    rw [hg]
    simp only [Option.bind_some]
    rw [bif_f (decide_eq_false (by omega))]
    rfl
  | m + 1, k, st, hk => by
    have hg := at_get hi
    have hpl := hps _ (List.getElem_mem hi)
    have ih := fun st' => r_pieces hi m (k + 1) st' (by omega)
    have hkl : k < (fr1 ts[i]).length := by simp [fr1]; omega
    have hkp : k < ts[i].2.2.length := by omega
    have hgp := at_get hkp
    have hfk : (fr1 ts[i])[k] = (ts[i].2.2[k]).1 := by simp [fr1]
    rw [List.drop_eq_getElem_cons hkl, List.foldl_cons, ← ih, hfk]
    refine itr_in ?_
    generalize (fr1 ts[i]) = F at *
    clear ih
    generalize ts[i].2.2[k] = p at *
    generalize ts[i] = t at *
    obtain ⟨t0, t1, ps⟩ := t
    obtain ⟨s0, s1⟩ := st
    obtain ⟨p0, ⟨p1, p2⟩, ⟨p3, p4⟩, p5, p6⟩ := p
    unfold R13_4 Q13_4 scan abv
    simp only [] at hk hpl hgp ⊢
    have hk2 : k < ps.length := hkp
    have hpl2 : ps.length ≤ 140737488355328 := hpl
    rw [hg]
    simp only [Option.bind_some]
    rw [bif_t (decide_eq_true (by omega)), hgp]
    simp only [Option.bind_some]
    rw [wsi (n := (k : Int) + 1) (by omega), show (k : Int) + 1 = ((k + 1 : Nat) : Int) from by omega]
    by_cases h0 : out.length = 0
    · rw [bif_t (len0 h0), decide_eq_true h0]
      cases s0 with
      | false =>
        rw [if_pos (by simp)]
        rfl
      | true =>
        by_cases hl : p0 < s1
        · rw [if_pos (by simp [hl]), decide_eq_true hl]
          rfl
        · rw [if_neg (by simp [hl]), decide_eq_false hl]
          rfl
    · have hlt : out.length - 1 < out.length := by omega
      rw [bif_f (lenN h0), wsi (n := (out.length : Int) - 1) (by omega), show (out.length : Int) - 1 = ((out.length - 1 : Nat) : Int) from by omega, inb hlt]
      simp only [cond_true, Option.bind_some, Int.toNat_natCast]
      rw [List.getElem?_eq_getElem hlt, Hp.getD_get hlt, decide_eq_false h0]
      simp only [Option.bind_some, Bool.false_or]
      by_cases ha : p0 > out[out.length - 1]
      · rw [decide_eq_true ha]
        cases s0 with
        | false =>
          rw [if_pos (by simp)]
          rfl
        | true =>
          by_cases hl : p0 < s1
          · rw [if_pos (by simp [hl]), decide_eq_true hl]
            rfl
          · rw [if_neg (by simp [hl]), decide_eq_false hl]
            rfl
      · rw [decide_eq_false ha, if_neg (by simp)]
        rfl
theorem r_tables : ∀ (m i : Nat) (st : Bool × Int), i + m = ts.length → itr R13_2 (m + 1) (ts, out, st.1, st.2, (i : Int), ()) = some (ts, out, ((froms (ts.drop i)).foldl (scan (abv out)) st).1, ((froms (ts.drop i)).foldl (scan (abv out)) st).2, ())
  | 0, i, st, hi => by
    rw [List.drop_eq_nil_of_le (by omega)]
    refine itr_out ?_
    unfold R13_2 Q13_2
    simp only []
    rw [bif_f (decide_eq_false (by omega))]
    rfl
  | m + 1, i, st, hi => by
    have hil : i < ts.length := by omega
    have L := itrs_of (r_pieces ts out hts hps ho hil ts[i].2.2.length 0 st (by omega)) (by have := hps _ (List.getElem_mem hil); omega)
    have ih := fun st' => r_tables m (i + 1) st' (by omega)
    have hd : froms (ts.drop i) = fr1 ts[i] ++ froms (ts.drop (i + 1)) := by rw [List.drop_eq_getElem_cons hil]; rfl
    rw [hd, List.foldl_append, ← ih]
    refine itr_in ?_
    rw [List.drop_zero] at L
    rw [show ((0 : Nat) : Int) = 0 from rfl] at L
    unfold R13_2 Q13_2
    simp only []
    rw [bif_t (decide_eq_true (by omega)), L]
    simp only [Option.bind_some]
    rw [wsi (by omega)]
    rfl
end
theorem rCuts {ts : List Tb} {C : List Int} (hts : ts.length ≤ 140737488355328) (hps : ∀ t ∈ ts, t.2.2.length ≤ 140737488355328) (hC : Cut (froms ts) C) (hl : C.length ≤ 4096) : N13 (ts, ()) = some (C, ()) := by
  have pw := List.pairwise_iff_getElem.1 hC.s
  have L := itrs_seq (ro := R13_0) (fun k => (ts, C.take k, ())) C.length (x := (ts, [], ())) (y := (C, ())) rfl (fun k hk => by
    have hlen : (C.take k).length = k := by rw [List.length_take]; omega
    have T := itrs_of (r_tables ts (C.take k) hts hps (by omega) ts.length 0 (false, 0) (by omega)) (by omega)
    rw [List.drop_zero] at T
    have S := scan_seen (ab := abv (C.take k)) (froms ts) [] (false, 0) ⟨fun _ f hf => (by cases hf), fun e => (by cases e)⟩
    rw [List.nil_append] at S
    have ab : ∀ i (hi : i < C.length), abv (C.take k) C[i] = true ↔ k ≤ i := fun i hi => by
      unfold abv
      rw [hlen]
      by_cases k0 : k = 0
      · subst k0; simp
      · rw [decide_eq_false k0, Bool.false_or, decide_eq_true_eq, Hp.getD_get (show k - 1 < (C.take k).length by omega), List.getElem_take]
        constructor
        · intro h
          rcases Nat.lt_or_ge i (k - 1) with hc | hc
          · have := pw i (k - 1) hi (by omega) hc; omega
          · by_cases e : i = k - 1
            · subst e; omega
            · omega
        · intro h
          exact pw (k - 1) i (by omega) hi (by omega)
    generalize (froms ts).foldl (scan (abv (C.take k))) (false, 0) = st at *
    obtain ⟨s0, s1⟩ := st
    have hck := (hC.m C[k]).1 (List.getElem_mem hk)
    have found : s0 = true := by
      cases h : s0 with
      | true => rfl
      | false =>
        have := S.a h _ hck
        rw [(ab k hk).2 (Nat.le_refl _)] at this
        cases this
    subst found
    obtain ⟨b1, b2, b3⟩ := S.b rfl
    simp only at b1 b2 b3
    have e : s1 = C[k] := by
      obtain ⟨i, hi, e⟩ := List.getElem_of_mem ((hC.m s1).2 b1)
      have hik : k ≤ i := (ab i hi).1 (by rw [e]; exact b2)
      have hle := b3 _ hck ((ab k hk).2 (Nat.le_refl _))
      by_cases eik : i = k
      · subst eik; exact e.symm
      · have := pw k i hk hi (by omega)
        omega
    subst e
    unfold R13_0 Q13_0
    simp only [] at T ⊢
    rw [show ((0 : Nat) : Int) = 0 from rfl] at T
    rw [T]
    simp only [Option.bind_some, Bool.not_true, cond_false]
    rw [hlen, bif_t (decide_eq_true (by omega))]
    simp only [Option.bind_some]
    rw [List.take_succ_eq_append_getElem hk]) (by
    have T := itrs_of (r_tables ts C hts hps (by omega) ts.length 0 (false, 0) (by omega)) (by omega)
    rw [List.drop_zero] at T
    have S := scan_seen (ab := abv C) (froms ts) [] (false, 0) ⟨fun _ f hf => (by cases hf), fun e => (by cases e)⟩
    rw [List.nil_append] at S
    generalize (froms ts).foldl (scan (abv C)) (false, 0) = st at *
    obtain ⟨s0, s1⟩ := st
    have found : s0 = false := by
      cases h : s0 with
      | false => rfl
      | true =>
        exfalso
        obtain ⟨b1, b2, b3⟩ := S.b h
        simp only at b1 b2
        obtain ⟨i, hi, e⟩ := List.getElem_of_mem ((hC.m s1).2 b1)
        unfold abv at b2
        rw [decide_eq_false (show ¬ C.length = 0 by omega), Bool.false_or, decide_eq_true_eq, Hp.getD_get (show C.length - 1 < C.length by omega), ← e] at b2
        by_cases eik : i = C.length - 1
        · subst eik; omega
        · have := pw i (C.length - 1) hi (by omega) (by omega)
          omega
    subst found
    rw [List.take_length]
    unfold R13_0 Q13_0
    simp only [] at T ⊢
    rw [show ((0 : Nat) : Int) = 0 from rfl] at T
    rw [T]
    rfl) (by omega)
  unfold N13 M13
  simp only []
  rw [L]
  rfl
/-! ### how many pieces -/
def tot (ts : List Tb) : Nat := (ts.map fun t => 1 + t.2.2.length).sum
theorem froms_tot : ∀ ts : List Tb, (froms ts).length + ts.length = tot ts
  | [] => rfl
  | t :: ts => by
    have := froms_tot ts
    unfold froms tot at *
    simp only [List.flatMap_cons, List.length_append, List.length_cons, List.map_cons, List.sum_cons]
    have : (fr1 t).length = t.2.2.length := by simp [fr1]
    omega
theorem tot_app (a b : List Tb) : tot (a ++ b) = tot a + tot b := by unfold tot; rw [List.map_append, List.sum_append]
theorem tot_mono (ts : List Tb) (j : Nat) : tot (ts.take j) ≤ tot ts := by
  have := tot_app (ts.take j) (ts.drop j)
  rw [List.take_append_drop] at this
  omega
theorem ePieces {ts : List Tb} (hts : ts.length ≤ 140737488355328) (hps : ∀ t ∈ ts, t.2.2.length ≤ 140737488355328) : ∃ n : Int, N8 (ts, ()) = some (n, ()) ∧ (n ≤ 4096 → tot ts ≤ 4096) := by
  obtain ⟨y, h1, n, rfl, h3⟩ := itrs_inv (ro := R8_0) (fun z => ∃ j : Nat, j ≤ ts.length ∧ z = (ts, (tot (ts.take j) : Int), (j : Int), ()) ∧ tot (ts.take j) ≤ 140737488359424 + 4097) (fun z => ts.length - (z.2.2.1).toNat) (fun y => ∃ n : Int, y = (n, ()) ∧ (n ≤ 4096 → tot ts ≤ 4096)) (fun z ⟨j, hj, e, hb⟩ => by
    subst e
    by_cases hjl : j < ts.length
    · have hg := at_get hjl
      have hpl := hps _ (List.getElem_mem hjl)
      have ht : tot (ts.take (j + 1)) = tot (ts.take j) + (1 + ts[j].2.2.length) := by
        rw [List.take_succ_eq_append_getElem hjl, tot_app]
        simp [tot]
      by_cases hn : tot (ts.take j) ≤ 4096
      · refine .inl ⟨(ts, (tot (ts.take (j + 1)) : Int), ((j + 1 : Nat) : Int), ()), ?_, ⟨j + 1, hjl, rfl, by omega⟩, by simp only [Int.toNat_natCast]; omega⟩
        rw [ht]
        generalize ts[j] = t at *
        obtain ⟨t0, t1, ps⟩ := t
        unfold R8_0 Q8_0
        simp only [] at hpl ⊢
        rw [bif_t (decide_eq_true (show (j : Int) < (ts.length : Int) by omega)), bif_t (decide_eq_true (show (tot (ts.take j) : Int) ≤ 4096 by omega)), hg]
        simp only [Option.bind_some]
        rw [wsi (n := (tot (ts.take j) : Int) + 1) (by omega), wsi (n := (tot (ts.take j) : Int) + 1 + (ps.length : Int)) (by omega), wsi (n := (j : Int) + 1) (by omega)]
        rw [show (tot (ts.take j) : Int) + 1 + (ps.length : Int) = ((tot (ts.take j) + (1 + ps.length) : Nat) : Int) from by omega]
        rfl
      · refine .inr ⟨((tot (ts.take j) : Int), ()), ?_, _, rfl, fun h => absurd h (by omega)⟩
        unfold R8_0 Q8_0
        simp only []
        rw [bif_t (decide_eq_true (show (j : Int) < (ts.length : Int) by omega)), bif_f (decide_eq_false (show ¬ (tot (ts.take j) : Int) ≤ 4096 by omega))]
    · refine .inr ⟨((tot (ts.take j) : Int), ()), ?_, _, rfl, fun h => ?_⟩
      · unfold R8_0 Q8_0
        simp only []
        rw [bif_f (decide_eq_false (show ¬ (j : Int) < (ts.length : Int) by omega))]
      · rw [List.take_of_length_le (show ts.length ≤ j by omega)] at h
        omega) (x := (ts, 0, 0, ())) ⟨0, by omega, rfl, by simp [tot]⟩ (by simp only [Int.toNat_zero]; omega)
  refine ⟨n, ?_, h3⟩
  unfold N8 M8
  simp only []
  rw [h1]
  rfl
end Go.Proofs.Ytnlajjeppdchiaa.E
namespace Go.Proofs.Ytnlajjeppdchiaa.E
open Go
set_option linter.unusedVariables false
set_option linter.unusedSimpArgs false
set_option maxRecDepth 100000
def eqP (a b : Pc) : Bool := a.2.1.1 == b.2.1.1 && a.2.1.2 == b.2.1.2 && (a.2.2.1.1 == b.2.2.1.1 && a.2.2.1.2 == b.2.2.1.2 && (a.2.2.2.1 == b.2.2.2.1 && a.2.2.2.2 == b.2.2.2.2))
theorem eqP_iff {a b : Pc} : eqP a b = true ↔ a.2 = b.2 := by
  obtain ⟨a0, ⟨a1, a2⟩, ⟨a3, a4⟩, a5, a6⟩ := a
  obtain ⟨b0, ⟨b1, b2⟩, ⟨b3, b4⟩, b5, b6⟩ := b
  simp [eqP, and_assoc]
/-- Two neighbours that may not be so. -/
def badP (a b : Pc) : Bool := decide (a.1 ≥ b.1) || decide (b.1 > 1099511627776) || eqP a b
def pz : Pc := (0, (0, 0), (0, 0), 0, 0)
def badT (l : List Pc) : Bool := (List.range' 0 (l.length - 1)).any fun j => badP (l.getD j pz) (l.getD (j + 1) pz)
def chkT (t : Tb) : Bool :=
  bif decide (t.1 < 1) then false else bif decide (t.1 > 1000000000000) then false else bif decide (t.2.1 < 0) then false else bif decide (t.2.1 > 6) then false else
  bif decide (t.2.2.length < 1) then false else bif decide (t.2.2.length > 256) then false else bif (t.2.2.getD 0 pz).1 != 0 then false else !badT t.2.2
theorem bif3 {α : Type} {a b c : Bool} {x y : α} : (bif a then x else bif b then x else bif c then x else y) = bif (a || b || c) then x else y := by cases a <;> cases b <;> cases c <;> rfl
theorem eCheck (t : Tb) (hl : t.2.2.length ≤ 140737488355328) : N14 (t, ()) = some (chkT t, ()) := by
  obtain ⟨s, c, l⟩ := t
  unfold N14 M14 chkT
  simp only [] at hl ⊢
  cases h1 : decide (s < 1) with | true => rfl | false => ?_
  cases h2 : decide (s > 1000000000000) with | true => rfl | false => ?_
  cases h3 : decide (c < 0) with | true => rfl | false => ?_
  cases h4 : decide (c > 6) with | true => rfl | false => ?_
  simp only [cond_false]
  by_cases h5 : l.length < 1
  · rw [bif_t (decide_eq_true (by omega)), bif_t (decide_eq_true h5)]
  · rw [bif_f (decide_eq_false (by omega)), bif_f (decide_eq_false h5)]
    by_cases h6 : l.length > 256
    · rw [bif_t (decide_eq_true (by omega)), bif_t (decide_eq_true h6)]
    · rw [bif_f (decide_eq_false (by omega)), bif_f (decide_eq_false h6), List.getElem?_eq_getElem (show 0 < l.length by omega)]
      simp only [Option.bind_some]
      rw [Hp.getD_get (show 0 < l.length by omega)]
      have hL := itrs_any (ro := R14_0) (fun j => ((s, c, l, ()), ((l.length - 1 : Nat) : Int), (j : Int), ())) (fun j => badP (l.getD j pz) (l.getD (j + 1) pz)) (.inr (false, ())) (.inl ()) (l.length - 1) rfl (fun j hj => by
        unfold R14_0 Q14_0
        simp only []
        rw [bif_t (decide_eq_true (by omega)), at_get (show j < l.length by omega)]
        simp only [Option.bind_some]
        rw [wsi (by omega), show ((j : Int) + 1) = ((j + 1 : Nat) : Int) by omega, at_get (show j + 1 < l.length by omega), Hp.getD_get (show j < l.length by omega), Hp.getD_get (show j + 1 < l.length by omega)]
        simp only [Option.bind_some]
        unfold badP
        exact bif3) (by
        unfold R14_0 Q14_0
        simp only []
        rw [bif_f (decide_eq_false (by omega))]) (by omega)
      rw [wsi (by omega), show ((l.length : Int) - 1) = ((l.length - 1 : Nat) : Int) by omega]
      rw [show ((0 : Nat) : Int) = 0 from rfl] at hL
      rw [hL]
      simp only [Option.bind_some]
      change (bif l[0].1 != 0 then _ else _) = some (bif l[0].1 != 0 then false else !badT l, ())
      unfold badT
      cases h7 : l[0].1 != 0 with | true => rfl | false => ?_
      cases h8 : (List.range' 0 (l.length - 1)).any (fun j => badP (l.getD j pz) (l.getD (j + 1) pz)) <;> rfl
theorem any_shift (f : Nat → Bool) (n : Nat) : (List.range' 0 (n + 1)).any f = (f 0 || (List.range' 0 n).any fun j => f (j + 1)) := by
  rw [List.range'_succ, List.any_cons, Nat.zero_add, show List.range' 1 n = (List.range' 0 n).map (1 + ·) by simp [List.map_add_range'], List.any_map]
  congr 2
  funext j
  exact congrArg f (Nat.add_comm 1 j)
theorem rCheck (t : Tb) (hl : t.2.2.length ≤ 140737488355328) : N22 (t, ()) = some (chkT t, ()) := by
  obtain ⟨s, c, l⟩ := t
  unfold N22 M22 chkT
  simp only [] at hl ⊢
  cases h1 : decide (s < 1) with | true => rfl | false => ?_
  cases h2 : decide (s > 1000000000000) with | true => rfl | false => ?_
  cases h3 : decide (c < 0) with | true => rfl | false => ?_
  cases h4 : decide (c > 6) with | true => rfl | false => ?_
  simp only [cond_false]
  by_cases h5 : l.length < 1
  · rw [bif_t (len0 (by omega)), bif_t (decide_eq_true h5)]
  · rw [bif_f (lenN (by omega)), bif_f (decide_eq_false h5)]
    by_cases h6 : l.length > 256
    · rw [bif_t (decide_eq_true (by omega)), bif_t (decide_eq_true h6)]
    · rw [bif_f (decide_eq_false (by omega)), bif_f (decide_eq_false h6)]
      have hL := itrs_any (ro := R22_0) (fun j => ((s, c, l, ()), (j : Int), ())) (fun j => bif decide (j = 0) then (l.getD 0 pz).1 != 0 else badP (l.getD (j - 1) pz) (l.getD j pz)) (.inr (false, ())) (.inl ()) l.length rfl (fun j hj => by
        unfold R22_0 Q22_0
        simp only []
        rw [bif_t (decide_eq_true (by omega)), at_get hj]
        by_cases j0 : j = 0
        · subst j0
          rw [Hp.getD_get hj]
          simp only [Option.bind_some]
          generalize l[0] = p at *
          obtain ⟨p0, ⟨p1, p2⟩, ⟨p3, p4⟩, p5, p6⟩ := p
          simp only []
          change _ = bif (p0 != 0) then _ else _
          cases h7 : p0 != 0 with
          | true =>
            cases h8 : decide (p0 > 1099511627776) <;> rfl
          | false =>
            have : p0 = 0 := by simpa using h7
            subst this
            rfl
        · rw [bif_f (c := decide (j = 0)) (decide_eq_false j0), bif_f (c := (j : Int) == 0) (by rw [beq_eq_false_iff_ne]; omega), bif_t (c := decide ((j : Int) > 0)) (decide_eq_true (by omega))]
          rw [wsi (n := (j : Int) - 1) (by omega), show ((j : Int) - 1) = ((j - 1 : Nat) : Int) by omega, at_get (show j - 1 < l.length by omega), Hp.getD_get hj, Hp.getD_get (show j - 1 < l.length by omega)]
          generalize l[j] = b at *
          generalize l[j - 1] = a at *
          obtain ⟨a0, ⟨a1, a2⟩, ⟨a3, a4⟩, a5, a6⟩ := a
          obtain ⟨b0, ⟨b1, b2⟩, ⟨b3, b4⟩, b5, b6⟩ := b
          simp only [Option.bind_some]
          rw [wsi (by omega)]
          unfold badP eqP
          simp only []
          generalize decide (a0 ≥ b0) = x
          generalize decide (b0 > 1099511627776) = y
          generalize (a1 == b1 && a2 == b2 && (a3 == b3 && a4 == b4 && (a5 == b5 && a6 == b6))) = z
          cases x <;> cases y <;> cases z <;> rfl) (by
        unfold R22_0 Q22_0
        simp only []
        rw [bif_f (decide_eq_false (by omega))]) (by omega)
      rw [show ((0 : Nat) : Int) = 0 from rfl] at hL
      rw [hL]
      have e : (List.range' 0 l.length).any (fun j => bif decide (j = 0) then (l.getD 0 pz).1 != 0 else badP (l.getD (j - 1) pz) (l.getD j pz)) = ((l.getD 0 pz).1 != 0 || badT l) := by
        obtain ⟨n, hn⟩ : ∃ n, l.length = n + 1 := ⟨l.length - 1, by omega⟩
        unfold badT
        rw [hn, any_shift]
        rfl
      rw [e]
      cases h7 : (l.getD 0 pz).1 != 0 with | true => rfl | false => ?_
      cases h8 : badT l <;> rfl
/-- What a table in its form is like. -/
structure Fit (t : Tb) : Prop where
  n : 1 ≤ t.2.2.length
  m : t.2.2.length ≤ 256
  z : (t.2.2.getD 0 pz).1 = 0
  s : ∀ j, j + 1 < t.2.2.length → (t.2.2.getD j pz).1 < (t.2.2.getD (j + 1) pz).1 ∧ (t.2.2.getD (j + 1) pz).1 ≤ 1099511627776
theorem chk_fit {t : Tb} (h : chkT t = true) : Fit t := by
  unfold chkT at h
  cases h1 : decide (t.1 < 1) <;> rw [h1] at h <;> simp only [cond_true, cond_false, Bool.false_eq_true] at h
  cases h2 : decide (t.1 > 1000000000000) <;> rw [h2] at h <;> simp only [cond_true, cond_false, Bool.false_eq_true] at h
  cases h3 : decide (t.2.1 < 0) <;> rw [h3] at h <;> simp only [cond_true, cond_false, Bool.false_eq_true] at h
  cases h4 : decide (t.2.1 > 6) <;> rw [h4] at h <;> simp only [cond_true, cond_false, Bool.false_eq_true] at h
  cases h5 : decide (t.2.2.length < 1) <;> rw [h5] at h <;> simp only [cond_true, cond_false, Bool.false_eq_true] at h
  cases h6 : decide (t.2.2.length > 256) <;> rw [h6] at h <;> simp only [cond_true, cond_false, Bool.false_eq_true] at h
  cases h7 : (t.2.2.getD 0 pz).1 != 0 <;> rw [h7] at h <;> simp only [cond_true, cond_false, Bool.false_eq_true] at h
  have h5 := of_decide_eq_false h5
  have h6 := of_decide_eq_false h6
  refine ⟨by omega, by omega, by simpa using h7, fun j hj => ?_⟩
  have h8 : badT t.2.2 = false := by cases e : badT t.2.2 <;> rw [e] at h <;> simp_all
  unfold badT at h8
  rw [List.any_eq_false] at h8
  have := h8 j (by simp; omega)
  unfold badP at this
  simp only [Bool.or_eq_true, decide_eq_true_eq, not_or] at this
  omega
theorem Fit.lt {t : Tb} (h : Fit t) : ∀ {i j : Nat}, i < j → j < t.2.2.length → (t.2.2.getD i pz).1 < (t.2.2.getD j pz).1 := by
  intro i j hij
  induction j with
  | zero => omega
  | succ j ih =>
    intro hj
    have := h.s j hj
    by_cases e : i = j
    · rw [e]
      exact this.1
    · have := ih (by omega) (by omega)
      omega
end Go.Proofs.Ytnlajjeppdchiaa.E
namespace Go.Proofs.Ytnlajjeppdchiaa.E
open Go
set_option linter.unusedVariables false
set_option linter.unusedSimpArgs false
set_option maxRecDepth 100000
abbrev Lo : Type := List Tb × List Int × (List Qe × Unit) × Unit
def tz : Tb := (0, 0, [])
def pcs (ts : List Tb) (i : Nat) : List Pc := (ts.getD i tz).2.2
/-- Where the piece behind the place a begins. -/
def nxP (ps : List Pc) (a : Int) : Option Int := if (a + 1).toNat < ps.length then some (ps.getD (a + 1).toNat pz).1 else none
def nx (ts : List Tb) (av : List Int) (i : Nat) : Option Int := nxP (pcs ts i) (av.getD i 0)
/-- The queue holds what waits at the tables of S. -/
structure QS (ts : List Tb) (av : List Int) (S : Nat → Prop) (q : List Qe) : Prop where
  h : QHeap q
  d : (q.map (·.2)).Nodup
  m : ∀ e, e ∈ q ↔ ∃ i : Nat, S i ∧ e.2 = (i : Int) ∧ nx ts av i = some e.1
theorem QS.ext {ts : List Tb} {av av' : List Int} {S S' : Nat → Prop} {q : List Qe} (h : QS ts av S q) (hs : ∀ i, S i ↔ S' i) (ha : ∀ i, S i → nx ts av i = nx ts av' i) : QS ts av' S' q := by
  refine ⟨h.h, h.d, fun e => (h.m e).trans ⟨?_, ?_⟩⟩
  · rintro ⟨i, a, b, c⟩
    exact ⟨i, (hs i).1 a, b, by rw [← ha i a]; exact c⟩
  · rintro ⟨i, a, b, c⟩
    exact ⟨i, (hs i).2 a, b, by rw [ha i ((hs i).2 a)]; exact c⟩
theorem QS.push {ts : List Tb} {av : List Int} {S : Nat → Prop} {q q' : List Qe} {i : Nat} (h : QS ts av S q) (hi : ¬ S i) (h' : QHeap q') (p : q'.Perm (q ++ (nx ts av i).toList.map fun f => (f, (i : Int)))) : QS ts av (fun j => S j ∨ j = i) q' := by
  have out : (i : Int) ∉ q.map (·.2) := by
    intro hm
    obtain ⟨e, he, e2⟩ := List.mem_map.1 hm
    obtain ⟨j, hj, h2, _⟩ := (h.m e).1 he
    exact hi (by rw [show i = j by omega]; exact hj)
  refine ⟨h', ?_, fun e => ?_⟩
  · rw [(p.map (·.2)).nodup_iff, List.map_append]
    cases nx ts av i with
    | none => simpa using h.d
    | some f =>
      rw [List.nodup_append]
      refine ⟨h.d, by simp, ?_⟩
      intro a ha b hb
      simp at hb
      subst hb
      intro e
      exact out (e ▸ ha)
  · rw [p.mem_iff, List.mem_append, h.m]
    constructor
    · rintro (⟨j, a, b, c⟩ | hh)
      · exact ⟨j, .inl a, b, c⟩
      · obtain ⟨f, hf, rfl⟩ := List.mem_map.1 hh
        exact ⟨i, .inr rfl, rfl, by simpa using hf⟩
    · rintro ⟨j, a | rfl, b, c⟩
      · exact .inl ⟨j, a, b, c⟩
      · right
        rw [c]
        obtain ⟨e0, e1⟩ := e
        simp only at b
        simp [b]
theorem QS.pop {ts : List Tb} {av : List Int} {S : Nat → Prop} {q q' : List Qe} {x : Qe} {i : Nat} (h : QS ts av S q) (h' : QHeap q') (p : q.Perm (x :: q')) (hi : x.2 = (i : Int)) : QS ts av (fun j => S j ∧ j ≠ i) q' := by
  have nd := (p.map (·.2)).nodup_iff.1 h.d
  rw [List.map_cons, List.nodup_cons] at nd
  refine ⟨h', nd.2, fun e => ?_⟩
  constructor
  · intro he
    obtain ⟨j, a, b, c⟩ := (h.m e).1 (p.mem_iff.2 (List.mem_cons_of_mem _ he))
    refine ⟨j, ⟨a, ?_⟩, b, c⟩
    rintro rfl
    exact nd.1 (by rw [hi, ← b]; exact List.mem_map_of_mem he)
  · rintro ⟨j, ⟨a, ne⟩, b, c⟩
    rcases List.mem_cons.1 (p.mem_iff.1 ((h.m e).2 ⟨j, a, b, c⟩)) with rfl | hh
    · omega
    · exact hh
theorem eWait {ts : List Tb} {av : List Int} {q : List Qe} {i : Nat} (hi : i < ts.length) (ha : av.length = ts.length) (hb : -1 ≤ av.getD i 0 ∧ av.getD i 0 ≤ 140737488355328) (hp : (pcs ts i).length ≤ 140737488355328) (hq : QHeap q) (hl : q.length < 1000000000) :
    ∃ q', N31 ((ts, av, (q, ()), ()), (i : Int), ()) = some ((ts, av, (q', ()), ()), ()) ∧ QHeap q' ∧ q'.Perm (q ++ (nx ts av i).toList.map fun f => (f, (i : Int))) := by
  have hts : ts.getD i tz = ts[i] := Hp.getD_get hi
  have hav : av.getD i 0 = av[i] := Hp.getD_get (by omega)
  have hg := at_get hi
  unfold N31 M31
  simp only []
  rw [bif_t (inb (show i < av.length by omega)), Int.toNat_natCast, List.getElem?_eq_getElem (show i < av.length by omega)]
  simp only [Option.bind_some]
  rw [Int.toNat_natCast] at hg
  rw [hg]
  unfold nx nxP
  unfold pcs at hp ⊢
  rw [hts] at hp ⊢
  rw [hav] at hb ⊢
  generalize av[i] = a at *
  generalize ts[i] = t at *
  obtain ⟨t0, t1, ps⟩ := t
  simp only [Option.bind_some] at *
  rw [wsi (by omega)]
  by_cases hh : (a + 1).toNat < ps.length
  · rw [if_pos hh, bif_t (decide_eq_true (show a + 1 < (ps.length : Int) by omega)), bif_t (decide_eq_true (show 0 ≤ a + 1 by omega)), List.getElem?_eq_getElem hh, Hp.getD_get hh]
    generalize ps[(a + 1).toNat] = p at *
    obtain ⟨p0, ⟨p1, p2⟩, ⟨p3, p4⟩, p5, p6⟩ := p
    simp only [Option.bind_some]
    obtain ⟨q', e, h', p', _⟩ := qPush (x := (p0, (i : Int))) hq hl
    refine ⟨q', ?_, h', p'⟩
    rw [e]
    rfl
  · rw [if_neg hh, bif_f (decide_eq_false (show ¬ a + 1 < (ps.length : Int) by omega))]
    exact ⟨q, rfl, hq, by simp⟩
theorem toL_len {α : Type} (o : Option α) : o.toList.length ≤ 1 := by cases o <;> simp
theorem e_set {ts : List Tb} (hn : ts.length ≤ 1000000) (hp : ∀ i, i < ts.length → (pcs ts i).length ≤ 140737488355328) : ∀ (m i : Nat) (av : List Int) (q : List Qe), i + m = ts.length → av.length = ts.length → (∀ j, j < i → av.getD j 0 = -1) → q.length ≤ i → QS ts av (· < i) q →
    ∃ av' q', itr R19_0 (m + 1) ((ts, av, (q, ()), ()), (ts.length : Int), (i : Int), ()) = some ((ts, av', (q', ()), ()), ()) ∧ av'.length = ts.length ∧ (∀ j, j < ts.length → av'.getD j 0 = -1) ∧ q'.length ≤ ts.length ∧ QS ts av' (· < ts.length) q'
  | 0, i, av, q, hi, ha, h1, hl, hq => by
    have : i = ts.length := by omega
    subst this
    refine ⟨av, q, itr_out ?_, ha, h1, hl, hq⟩
    unfold R19_0 Q19_0
    simp only []
    rw [bif_f (decide_eq_false (by omega))]
  | m + 1, i, av, q, hi, ha, h1, hl, hq => by
    have hin : i < ts.length := by omega
    have hs : ∀ j, (av.set i (-1)).getD j 0 = if j = i then -1 else av.getD j 0 := fun j => Hp.getD_set (by omega)
    have hq2 : QS ts (av.set i (-1)) (· < i) q := hq.ext (fun _ => Iff.rfl) fun j hj => by unfold nx; rw [hs, if_neg (by omega)]
    obtain ⟨q1, e1, hh1, p1⟩ := eWait (q := q) hin (show (av.set i (-1)).length = ts.length by simp [ha]) (by rw [hs, if_pos rfl]; omega) (hp i hin) hq.h (by omega)
    have hq3 := (hq2.push (by omega) hh1 p1).ext (S' := (· < i + 1)) (fun j => by omega) fun _ _ => rfl
    have hl1 : q1.length ≤ i + 1 := by
      have := p1.length_eq
      rw [List.length_append, List.length_map] at this
      have := toL_len (nx ts (av.set i (-1)) i)
      omega
    obtain ⟨av', q', e, r1, r2, r3, r4⟩ := e_set hn hp m (i + 1) (av.set i (-1)) q1 (by omega) (by simp [ha]) (fun j hj => by
      rw [hs]
      by_cases hji : j = i
      · rw [if_pos hji]
      · rw [if_neg hji]
        exact h1 j (by omega)) hl1 hq3
    refine ⟨av', q', ?_, r1, r2, r3, r4⟩
    rw [← e]
    refine itr_in ?_
    unfold R19_0 Q19_0
    simp only []
    rw [bif_t (decide_eq_true (by omega)), bif_t (inb (show i < av.length by omega)), Int.toNat_natCast, List.getElem?_eq_getElem (show i < av.length by omega)]
    simp only [Option.bind_some]
    rw [e1]
    simp only [Option.bind_some]
    rw [wsi (by omega)]
    rfl
/-- Between two places: what lies at f or ahead of it is behind the loom, what waits is beyond f. -/
structure Pre (ts : List Tb) (f : Int) (av : List Int) (q : List Qe) : Prop where
  n : av.length = ts.length
  qs : QS ts av (· < ts.length) q
  l : q.length ≤ ts.length
  a : ∀ i, i < ts.length → -1 ≤ av.getD i 0 ∧ av.getD i 0 < (pcs ts i).length ∧ (0 ≤ av.getD i 0 → ((pcs ts i).getD (av.getD i 0).toNat pz).1 ≤ f)
  w : ∀ e ∈ q, f < e.1
theorem fit_at {ts : List Tb} (hf : ∀ t ∈ ts, Fit t) {i : Nat} (hi : i < ts.length) : Fit (ts.getD i tz) := by
  rw [Hp.getD_get hi]
  exact hf _ (List.getElem_mem hi)
theorem fit_nonneg {t : Tb} (h : Fit t) {j : Nat} (hj : j < t.2.2.length) : 0 ≤ (t.2.2.getD j pz).1 := by
  have := h.z
  by_cases e : j = 0
  · rw [e]; omega
  · have := h.lt (show 0 < j by omega) hj
    omega
theorem eSet {ts : List Tb} (hn : ts.length ≤ 1000000) (hf : ∀ t ∈ ts, Fit t) : ∃ av q, N19 (ts, ()) = some ((ts, av, (q, ()), ()), ()) ∧ Pre ts (-1) av q := by
  have hp : ∀ i, i < ts.length → (pcs ts i).length ≤ 140737488355328 := fun i hi => by
    have := (fit_at hf hi).m
    unfold pcs
    omega
  obtain ⟨av, q, e, r1, r2, r3, r4⟩ := e_set hn hp ts.length 0 (List.replicate ts.length 0) [] (by omega) (by simp) (fun j hj => by omega) (by simp) ⟨fun c c0 c1 => by simp at c1, by simp, fun e => by simp⟩
  refine ⟨av, q, ?_, r1, r4, r3, fun i hi => ?_, fun e he => ?_⟩
  · unfold N19 M19
    simp only []
    rw [Int.toNat_natCast, show decide True = true from rfl, decide_eq_true (show ts.length * 8 ≤ 140737488355328 by omega), decide_eq_true (show (ts.length : Int) ≤ 9223372036854775807 by omega)]
    simp only [Bool.and_self, cond_true, Option.bind_some]
    have e := itrs_of e (by omega)
    rw [show ((0 : Nat) : Int) = 0 from rfl] at e
    rw [e]
    rfl
  · have := (fit_at hf hi).n
    rw [r2 i hi]
    unfold pcs
    exact ⟨by omega, by omega, by omega⟩
  · obtain ⟨i, hi, e2, e1⟩ := (r4.m e).1 he
    unfold nx nxP pcs at e1
    split at e1
    · rename_i hh
      have := fit_nonneg (fit_at hf hi) hh
      injection e1 with e1
      omega
    · cases e1
end Go.Proofs.Ytnlajjeppdchiaa.E
namespace Go.Proofs.Ytnlajjeppdchiaa.E
open Go
set_option linter.unusedVariables false
set_option maxRecDepth 100000
/-- The number of a row of digits, the lowest first. -/
def dv : List Int → Int
  | [] => 0
  | x :: r => x + 65536 * dv r
def D16 (x : Int) : Prop := 0 ≤ x ∧ x ≤ 65535
def Long (l : List Int) (V : Int) : Prop := l.length = 12 ∧ (∀ x ∈ l, D16 x) ∧ dv l = V
theorem Long.open {l : List Int} {V : Int} (h : Long l V) : ∃ d0 d1 d2 d3 d4 d5 d6 d7 d8 d9 d10 d11, l = [d0, d1, d2, d3, d4, d5, d6, d7, d8, d9, d10, d11] ∧ D16 d0 ∧ D16 d1 ∧ D16 d2 ∧ D16 d3 ∧ D16 d4 ∧ D16 d5 ∧ D16 d6 ∧ D16 d7 ∧ D16 d8 ∧ D16 d9 ∧ D16 d10 ∧ D16 d11 ∧
    V = d0 + 65536 * (d1 + 65536 * (d2 + 65536 * (d3 + 65536 * (d4 + 65536 * (d5 + 65536 * (d6 + 65536 * (d7 + 65536 * (d8 + 65536 * (d9 + 65536 * (d10 + 65536 * (d11 + 65536 * 0))))))))))) := by
  obtain ⟨h1, h2, h3⟩ := h
  match l, h1 with
  | [d0, d1, d2, d3, d4, d5, d6, d7, d8, d9, d10, d11], _ =>
    simp only [List.mem_cons, List.not_mem_nil, or_false, forall_eq_or_imp, forall_eq] at h2
    exact ⟨d0, d1, d2, d3, d4, d5, d6, d7, d8, d9, d10, d11, rfl, h2.1, h2.2.1, h2.2.2.1, h2.2.2.2.1, h2.2.2.2.2.1, h2.2.2.2.2.2.1, h2.2.2.2.2.2.2.1, h2.2.2.2.2.2.2.2.1, h2.2.2.2.2.2.2.2.2.1, h2.2.2.2.2.2.2.2.2.2.1, h2.2.2.2.2.2.2.2.2.2.2.1, h2.2.2.2.2.2.2.2.2.2.2.2, h3.symm⟩
theorem Long.in {l : List Int} {V : Int} (h : Long l V) : 0 ≤ V ∧ V ≤ 6277101735386680763835789423207666416102355444464034512895 := by
  obtain ⟨d0, d1, d2, d3, d4, d5, d6, d7, d8, d9, d10, d11, rfl, k0, k1, k2, k3, k4, k5, k6, k7, k8, k9, k10, k11, e⟩ := h.open
  unfold D16 at *
  omega
/-! ### sums -/
/-- A sum with its carry. -/
def addc : Int → List Int → List Int → List Int
  | c, x :: xs, y :: ys =>
    Int.tmod (IntKind.wrap .u64 (IntKind.wrap .u64 (c + x) + y)) 65536 :: addc (IntKind.wrap .u64 (Int.tdiv (IntKind.wrap .u64 (IntKind.wrap .u64 (c + x) + y)) 65536)) xs ys
  | _, _, _ => []
theorem addc_spec : ∀ (xs ys : List Int) (c : Int), (∀ x ∈ xs, D16 x) → (∀ y ∈ ys, D16 y) → xs.length = ys.length → 0 ≤ c ∧ c ≤ 1 → (addc c xs ys).length = xs.length ∧ (∀ z ∈ addc c xs ys, D16 z) ∧ ∃ k, 0 ≤ k ∧ k ≤ 1 ∧ dv (addc c xs ys) + 65536 ^ xs.length * k = c + dv xs + dv ys
  | [], [], c, _, _, _, hc => ⟨rfl, (fun z hz => by cases hz), c, hc.1, hc.2, by simp [addc, dv]⟩
  | x :: xs, y :: ys, c, hx, hy, hl, hc => by
    have hx0 := hx x (by simp)
    have hy0 := hy y (by simp)
    unfold D16 at hx0 hy0
    have e1 : IntKind.wrap .u64 (IntKind.wrap .u64 (c + x) + y) = c + x + y := by rw [wui (n := c + x) (by omega), wui (by omega)]
    have e2 : IntKind.wrap .u64 (Int.tdiv (c + x + y) 65536) = (c + x + y) / 65536 := by rw [tdiv_pos (by omega), wui (by omega)]
    obtain ⟨i1, i2, k, k0, k1, k2⟩ := addc_spec xs ys ((c + x + y) / 65536) (fun z hz => hx z (by simp [hz])) (fun z hz => hy z (by simp [hz])) (by simpa using hl) (by omega)
    unfold addc
    rw [e1, e2, tmod_pos (by omega)]
    refine ⟨by simp [i1], fun z hz => ?_, k, k0, k1, ?_⟩
    · rcases List.mem_cons.1 hz with rfl | hz
      · unfold D16; omega
      · exact i2 z hz
    · simp only [dv, List.length_cons, Int.pow_succ]
      generalize (65536 : Int) ^ xs.length = p at *
      have : p * 65536 * k = 65536 * (p * k) := by grind
      rw [this]
      generalize p * k = q at *
      omega
theorem rPlus {a b : List Int} {A B : Int} (ha : Long a A) (hb : Long b B) : ∃ l, N40 (a, b, ()) = some (l, ()) ∧ Long l ((A + B) % 6277101735386680763835789423207666416102355444464034512896) := by
  have hlen : a.length = 12 := ha.1
  obtain ⟨h1, h2, k, k0, k1, k2⟩ := addc_spec a b 0 ha.2.1 hb.2.1 (ha.1.trans hb.1.symm) (by omega)
  refine ⟨addc 0 a b, ?_, h1.trans ha.1, h2, ?_⟩
  · unfold N40 M40
    obtain ⟨a0, a1, a2, a3, a4, a5, a6, a7, a8, a9, a10, a11, rfl, _⟩ := ha.open
    obtain ⟨b0, b1, b2, b3, b4, b5, b6, b7, b8, b9, b10, b11, rfl, _⟩ := hb.open
    have : itrs R40_0 ([a0, a1, a2, a3, a4, a5, a6, a7, a8, a9, a10, a11], [b0, b1, b2, b3, b4, b5, b6, b7, b8, b9, b10, b11], List.replicate 12 0, 0, 0, ()) = some (addc 0 [a0, a1, a2, a3, a4, a5, a6, a7, a8, a9, a10, a11] [b0, b1, b2, b3, b4, b5, b6, b7, b8, b9, b10, b11], List.replicate 12 0, ()) := itrs_of (n := 13) (by kernel_rfl) (by omega)
    simp only [this, Option.bind_some]
  · have hv : Long (addc 0 a b) (dv (addc 0 a b)) := ⟨h1.trans ha.1, h2, rfl⟩
    have := hv.in
    rw [hlen, ha.2.2, hb.2.2, show (65536 : Int) ^ 12 = 6277101735386680763835789423207666416102355444464034512896 from by decide] at k2
    omega
/-! ### opposites -/
def turn : List Int → List Int
  | [] => []
  | x :: xs => IntKind.wrap .u64 (65535 - x) :: turn xs
theorem turn_spec : ∀ (xs : List Int), (∀ x ∈ xs, D16 x) → (turn xs).length = xs.length ∧ (∀ z ∈ turn xs, D16 z) ∧ dv (turn xs) + dv xs + 1 = 65536 ^ xs.length
  | [], _ => ⟨rfl, (fun z hz => by cases hz), by simp [turn, dv]⟩
  | x :: xs, hx => by
    have hx0 := hx x (by simp)
    unfold D16 at hx0
    obtain ⟨i1, i2, i3⟩ := turn_spec xs fun z hz => hx z (by simp [hz])
    unfold turn
    rw [wui (by omega)]
    refine ⟨by simp [i1], fun z hz => ?_, ?_⟩
    · rcases List.mem_cons.1 hz with rfl | hz
      · unfold D16; omega
      · exact i2 z hz
    · simp only [dv, List.length_cons, Int.pow_succ]
      omega
theorem Long_one : Long [1, 0, 0, 0, 0, 0, 0, 0, 0, 0, 0, 0] 1 := by
  refine ⟨rfl, ?_, rfl⟩
  simp [D16]
/-! ### a number's digits -/
/-- A number of twelve digits for any number. -/
def long (v : Int) : Int := v % 6277101735386680763835789423207666416102355444464034512896
theorem sh_eq {x : Int} {n : Nat} {m : Int} (h : (2 : Int) ^ n = m) (hm : 0 ≤ m) : Int.fdiv x (2 ^ n) = x / m := by rw [h, fdiv_pos hm]
theorem sh_0 (x : Int) : Int.fdiv x (2 ^ 0) = x / 1 := sh_eq (by decide) (by omega)
theorem sh_16 (x : Int) : Int.fdiv x (2 ^ 16) = x / 65536 := sh_eq (by decide) (by omega)
theorem sh_32 (x : Int) : Int.fdiv x (2 ^ 32) = x / 4294967296 := sh_eq (by decide) (by omega)
theorem sh_48 (x : Int) : Int.fdiv x (2 ^ 48) = x / 281474976710656 := sh_eq (by decide) (by omega)
theorem rDigits {h l : Int} (b : WB h l) : ∃ d, N41 ((h, l), ()) = some (d, ()) ∧ Long d (long (wv h l)) := by
  have L1 : itrs R41_0 ((h, l, ()), List.replicate 12 0, List.replicate 12 0, 0, ()) = some ((h, l, ()), List.replicate 12 0, [Int.tmod (Int.fdiv l (2 ^ 0)) 65536, Int.tmod (Int.fdiv l (2 ^ 16)) 65536, Int.tmod (Int.fdiv l (2 ^ 32)) 65536, Int.tmod (Int.fdiv l (2 ^ 48)) 65536, Int.tmod (Int.fdiv (IntKind.wrap .u64 h) (2 ^ 0)) 65536, Int.tmod (Int.fdiv (IntKind.wrap .u64 h) (2 ^ 16)) 65536, Int.tmod (Int.fdiv (IntKind.wrap .u64 h) (2 ^ 32)) 65536, Int.tmod (Int.fdiv (IntKind.wrap .u64 h) (2 ^ 48)) 65536, 0, 0, 0, 0], ()) := itrs_of (n := 5) (by kernel_rfl) (by omega)
  obtain ⟨⟨p1, p2⟩, p3, p4⟩ := b
  have hw : 0 ≤ IntKind.wrap .u64 h ∧ IntKind.wrap .u64 h ≤ 18446744073709551615 := by rw [wu]; omega
  have hh := wu h
  unfold N41 M41
  simp only [L1, Option.bind_some]
  generalize IntKind.wrap .u64 h = u at *
  rw [sh_0, sh_16, sh_32, sh_48, sh_0, sh_16, sh_32, sh_48]
  rw [tmod_pos (by omega), tmod_pos (by omega), tmod_pos (by omega), tmod_pos (by omega), tmod_pos (by omega), tmod_pos (by omega), tmod_pos (by omega), tmod_pos (by omega)]
  by_cases hn : h < 0
  · rw [bif_t (decide_eq_true hn)]
    have L2 : ∀ t d0 d1 d2 d3 d4 d5 d6 d7, itrs R41_2 (t, [d0, d1, d2, d3, d4, d5, d6, d7, 0, 0, 0, 0], 8, ()) = some (t, [d0, d1, d2, d3, d4, d5, d6, d7, 65535, 65535, 65535, 65535], ()) := fun t d0 d1 d2 d3 d4 d5 d6 d7 => itrs_of (n := 5) (by kernel_rfl) (by omega)
    rw [L2]
    refine ⟨_, rfl, rfl, ?_, ?_⟩
    · simp only [List.mem_cons, List.not_mem_nil, or_false, forall_eq_or_imp, forall_eq, D16]
      omega
    · simp only [dv, long, wv]
      omega
  · rw [bif_f (decide_eq_false hn)]
    refine ⟨_, rfl, rfl, ?_, ?_⟩
    · simp only [List.mem_cons, List.not_mem_nil, or_false, forall_eq_or_imp, forall_eq, D16]
      omega
    · simp only [dv, long, wv]
      omega
theorem horner {d0 d1 d2 d3 : Int} (h0 : D16 d0) (h1 : D16 d1) (h2 : D16 d2) (h3 : D16 d3) :
    IntKind.wrap .u64 (IntKind.wrap .u64 (IntKind.wrap .u64 (IntKind.wrap .u64 (IntKind.wrap .u64 (IntKind.wrap .u64 (IntKind.wrap .u64 (IntKind.wrap .u64 (0 * 65536) + d3) * 65536) + d2) * 65536) + d1) * 65536) + d0) = d0 + 65536 * (d1 + 65536 * (d2 + 65536 * d3)) := by
  unfold D16 at *
  rw [wui (n := 0 * 65536) (by omega), wui (n := 0 * 65536 + d3) (by omega), wui (n := (0 * 65536 + d3) * 65536) (by omega), wui (n := (0 * 65536 + d3) * 65536 + d2) (by omega), wui (n := ((0 * 65536 + d3) * 65536 + d2) * 65536) (by omega), wui (n := ((0 * 65536 + d3) * 65536 + d2) * 65536 + d1) (by omega), wui (n := (((0 * 65536 + d3) * 65536 + d2) * 65536 + d1) * 65536) (by omega), wui (by omega)]
  omega
end Go.Proofs.Ytnlajjeppdchiaa.E
namespace Go.Proofs.Ytnlajjeppdchiaa.E
open Go
set_option linter.unusedVariables false
set_option maxRecDepth 100000
theorem long_in (v : Int) : 0 ≤ long v ∧ long v ≤ 6277101735386680763835789423207666416102355444464034512895 := by unfold long; omega
theorem rWide {l : List Int} {v : Int} (hv : -3138550867693340381917894711603833208051177722232017256448 ≤ v ∧ v < 3138550867693340381917894711603833208051177722232017256448) (h : Long l (long v)) : N47 (l, ()) = some (if inR v then ((v / 18446744073709551616, v % 18446744073709551616), true, ()) else ((0, 0), false, ())) := by
  obtain ⟨d0, d1, d2, d3, d4, d5, d6, d7, d8, d9, d10, d11, rfl, g0, g1, g2, g3, g4, g5, g6, g7, g8, g9, g10, g11, e⟩ := h.open
  unfold long at e
  have L2 : ∀ z, itrs R47_2 ([d0, d1, d2, d3, d4, d5, d6, d7, d8, d9, d10, d11], z, 0, 0, 3, ()) = some (z, IntKind.wrap .u64 (IntKind.wrap .u64 (IntKind.wrap .u64 (IntKind.wrap .u64 (IntKind.wrap .u64 (IntKind.wrap .u64 (IntKind.wrap .u64 (IntKind.wrap .u64 (0 * 65536) + d3) * 65536) + d2) * 65536) + d1) * 65536) + d0), IntKind.wrap .u64 (IntKind.wrap .u64 (IntKind.wrap .u64 (IntKind.wrap .u64 (IntKind.wrap .u64 (IntKind.wrap .u64 (IntKind.wrap .u64 (IntKind.wrap .u64 (0 * 65536) + d7) * 65536) + d6) * 65536) + d5) * 65536) + d4), ()) := fun ⟨z0, z1, ()⟩ => itrs_of (n := 5) (by kernel_rfl) (by omega)
  have L0 : ∀ z top, itrs R47_0 ([d0, d1, d2, d3, d4, d5, d6, d7, d8, d9, d10, d11], z, top, 8, ()) = bif d8 != top then some (.inr ((0, 0, ()), false, ())) else bif d9 != top then some (.inr ((0, 0, ()), false, ())) else bif d10 != top then some (.inr ((0, 0, ()), false, ())) else bif d11 != top then some (.inr ((0, 0, ()), false, ())) else some (.inl ([d0, d1, d2, d3, d4, d5, d6, d7, d8, d9, d10, d11], z, ())) := by
    intro ⟨z0, z1, ()⟩ top
    have s8 : R47_0 ([d0, d1, d2, d3, d4, d5, d6, d7, d8, d9, d10, d11], (z0, z1, ()), top, 8, ()) = bif d8 != top then some (.inr (.inr ((0, 0, ()), false, ()))) else some (.inl ([d0, d1, d2, d3, d4, d5, d6, d7, d8, d9, d10, d11], (z0, z1, ()), top, 9, ())) := by kernel_rfl
    have s9 : R47_0 ([d0, d1, d2, d3, d4, d5, d6, d7, d8, d9, d10, d11], (z0, z1, ()), top, 9, ()) = bif d9 != top then some (.inr (.inr ((0, 0, ()), false, ()))) else some (.inl ([d0, d1, d2, d3, d4, d5, d6, d7, d8, d9, d10, d11], (z0, z1, ()), top, 10, ())) := by kernel_rfl
    have s10 : R47_0 ([d0, d1, d2, d3, d4, d5, d6, d7, d8, d9, d10, d11], (z0, z1, ()), top, 10, ()) = bif d10 != top then some (.inr (.inr ((0, 0, ()), false, ()))) else some (.inl ([d0, d1, d2, d3, d4, d5, d6, d7, d8, d9, d10, d11], (z0, z1, ()), top, 11, ())) := by kernel_rfl
    have s11 : R47_0 ([d0, d1, d2, d3, d4, d5, d6, d7, d8, d9, d10, d11], (z0, z1, ()), top, 11, ()) = bif d11 != top then some (.inr (.inr ((0, 0, ()), false, ()))) else some (.inl ([d0, d1, d2, d3, d4, d5, d6, d7, d8, d9, d10, d11], (z0, z1, ()), top, 12, ())) := by kernel_rfl
    have s12 : R47_0 ([d0, d1, d2, d3, d4, d5, d6, d7, d8, d9, d10, d11], (z0, z1, ()), top, 12, ()) = some (.inr (.inl ([d0, d1, d2, d3, d4, d5, d6, d7, d8, d9, d10, d11], (z0, z1, ()), ()))) := by kernel_rfl
    refine itrs_eq (n := 5) ?_ (by cases d8 != top <;> cases d9 != top <;> cases d10 != top <;> cases d11 != top <;> rfl) (by omega)
    rw [itr_bif s8, itr_bif s9, itr_bif s10, itr_bif s11, itr_out s12]
  unfold N47 M47
  simp only []
  rw [show [d0, d1, d2, d3, d4, d5, d6, d7, d8, d9, d10, d11][7]? = some d7 from rfl]
  simp only [Option.bind_some, bif_p]
  unfold D16 at *
  have fin : ∀ top : Int, ((bif d8 != top then some (.inr ((0, 0, ()), false, ())) else bif d9 != top then some (.inr ((0, 0, ()), false, ())) else bif d10 != top then some (.inr ((0, 0, ()), false, ())) else bif d11 != top then some (.inr ((0, 0, ()), false, ())) else some (.inl ([d0, d1, d2, d3, d4, d5, d6, d7, d8, d9, d10, d11], (0, 0, ()), ()))) : Option LB47_0) =
      if d8 = top ∧ d9 = top ∧ d10 = top ∧ d11 = top then some (.inl ([d0, d1, d2, d3, d4, d5, d6, d7, d8, d9, d10, d11], (0, 0, ()), ())) else some (.inr ((0, 0, ()), false, ())) := by
    intro top
    simp only [bif_ne]
    (repeat' split) <;> first | rfl | (exfalso; simp_all; done) | (exfalso; omega)
  have H0 := horner g0 g1 g2 g3
  have H1 := horner g4 g5 g6 g7
  by_cases h7 : d7 ≥ 32768
  · rw [if_pos h7, L0, fin]
    by_cases ht : d8 = 65535 ∧ d9 = 65535 ∧ d10 = 65535 ∧ d11 = 65535
    · rw [if_pos ht]
      simp only [Option.bind_some]
      rw [L2]
      simp only [Option.bind_some]
      rw [H0, H1, if_pos (by unfold inR; omega), ws]
      congr 2
      congr 1 <;> omega
    · rw [if_neg ht, if_neg (by unfold inR; omega)]
      rfl
  · rw [if_neg h7, L0, fin]
    by_cases ht : d8 = 0 ∧ d9 = 0 ∧ d10 = 0 ∧ d11 = 0
    · rw [if_pos ht]
      simp only [Option.bind_some]
      rw [L2]
      simp only [Option.bind_some]
      rw [H0, H1, if_pos (by unfold inR; omega), ws]
      congr 2
      congr 1 <;> omega
    · rw [if_neg ht, if_neg (by unfold inR; omega)]
      rfl
theorem rtold {l : List Int} {v : Int} (hv : -3138550867693340381917894711603833208051177722232017256448 ≤ v ∧ v < 3138550867693340381917894711603833208051177722232017256448) (h : Long l (long v)) : N42 (l, ()) = some (wans v) := by
  unfold N42 M42
  simp only [rWide hv h]
  by_cases hr : inR v
  · rw [if_pos hr, wans_in hr]
    rfl
  · rw [if_neg hr, wans_out hr]
    rfl
theorem Long_eq {l : List Int} {V V' : Int} (h : Long l V) (e : V = V') : Long l V' := e ▸ h
end Go.Proofs.Ytnlajjeppdchiaa.E
namespace Go.Proofs.Ytnlajjeppdchiaa.E
open Go
set_option linter.unusedVariables false
set_option linter.unusedSimpArgs false
set_option maxRecDepth 100000
def wsum : List (Int × Int) → Int
  | [] => 0
  | p :: r => wv p.1 p.2 + wsum r
theorem wsum_append (a b : List (Int × Int)) : wsum (a ++ b) = wsum a + wsum b := by
  induction a with
  | nil => simp [wsum]
  | cons x r ih => simp only [List.cons_append, wsum, ih]; omega
theorem wsum_take {l : List (Int × Int)} {j : Nat} (h : j < l.length) : wsum (l.take (j + 1)) = wsum (l.take j) + wv l[j].1 l[j].2 := by
  rw [List.take_succ_eq_append_getElem h, wsum_append]
  simp [wsum]
theorem wsum_in (l : List (Int × Int)) (hl : ∀ p ∈ l, WB p.1 p.2) : -(l.length * 170141183460469231731687303715884105728 : Int) ≤ wsum l ∧ wsum l ≤ l.length * 170141183460469231731687303715884105728 := by
  induction l with
  | nil => simp [wsum]
  | cons x r ih =>
    have := ih fun p h => hl p (by simp [h])
    have := wv_in (hl x (by simp))
    simp only [wsum, List.length_cons]
    omega
theorem wsum_perm {a b : List (Int × Int)} (h : a.Perm b) : wsum a = wsum b := by
  induction h with
  | nil => rfl
  | cons x _ ih => simp only [wsum, ih]
  | swap x y l => simp only [wsum]; omega
  | trans _ _ h1 h2 => rw [h1, h2]
/-- The program's sum. -/
theorem wSum {l : List (Int × Int)} (hl : ∀ p ∈ l, WB p.1 p.2) (hn : l.length ≤ 140737488355328) : N16 (l, ()) = some (wans (wsum l)) := by
  unfold N16 M16
  simp only []
  rw [itrs_seq (fun j => ((0, 0, ()), wsum (l.take j) % 18446744073709551616, wsum (l.take j) / 18446744073709551616 % 18446744073709551616, wsum (l.take j) / 340282366920938463463374607431768211456, l, (l.length : Int), (j : Int), ())) l.length (by simp only [List.take_zero, wsum]; rfl) (fun j hj => ?_) (y := ((0, 0, ()), wsum l % 18446744073709551616, wsum l / 18446744073709551616 % 18446744073709551616, wsum l / 340282366920938463463374607431768211456, ())) ?_ (by omega)]
  · simp only [Option.bind_some]
    have hb := wsum_in l hl
    generalize wsum l = S at *
    rw [ws, fdiv_pos (by omega), bif_ne]
    unfold wans
    (repeat' split) <;> first | rfl | (exfalso; omega) | (congr 3 <;> omega) | (congr 2 <;> omega)
  · unfold R16_0 Q16_0
    simp only []
    rw [bif_f (decide_eq_false (by omega)), List.take_length]
  · unfold R16_0 Q16_0
    simp only []
    rw [bif_t (decide_eq_true (by omega)), at_get hj, wsum_take hj]
    have hb := wsum_in (l.take j) fun p h => hl p (List.mem_of_mem_take h)
    rw [List.length_take, Nat.min_eq_left (by omega)] at hb
    have hw := hl _ (List.getElem_mem hj)
    generalize l[j] = p at *
    generalize wsum (l.take j) = S at *
    obtain ⟨p0, p1⟩ := p
    obtain ⟨⟨q1, q2⟩, q3, q4⟩ := hw
    simp only [Option.bind_some] at *
    rw [add64_f (by omega) ⟨q3, q4⟩ (by omega)]
    simp only [Option.bind_some, wu]
    rw [add64_f (by omega) (by omega) (by omega)]
    simp only [Option.bind_some]
    rw [wsi (n := (S / 18446744073709551616 % 18446744073709551616 + p0 % 18446744073709551616 + (S % 18446744073709551616 + p1 + 0) / 18446744073709551616) / 18446744073709551616) (by omega), fdiv_pos (by omega), wsi (n := p0 / 9223372036854775808 + _) (by omega), wsi (n := S / _ + _) (by omega), wsi (by omega)]
    unfold wv
    congr 3
    · congr 1
      · omega
      · congr 1
        · omega
        · congr 1
          omega
theorem long_long (a b : Int) : (long a + long b) % 6277101735386680763835789423207666416102355444464034512896 = long (a + b) := by unfold long; omega
theorem Long_zero : Long (List.replicate (12 : Nat) (0 : Int)) (long 0) := by
  refine ⟨rfl, ?_, rfl⟩
  intro x h
  rw [List.eq_of_mem_replicate h]
  unfold D16
  omega
theorem r_sum (l : List (Int × Int)) (hl : ∀ p ∈ l, WB p.1 p.2) (hn : l.length ≤ 140737488355328) : ∀ (m j : Nat) (d : List Int), j + m = l.length → Long d (long (wsum (l.take j))) →
    ∃ d', itr R33_0 (m + 1) (l, (0, 0, ()), d, (j : Int), ()) = some ((0, 0, ()), d', ()) ∧ Long d' (long (wsum l))
  | 0, j, d, hj, hd => by
    refine ⟨d, itr_out ?_, ?_⟩
    · unfold R33_0 Q33_0
      simp only []
      rw [bif_f (decide_eq_false (by omega))]
    · rwa [List.take_of_length_le (by omega)] at hd
  | m + 1, j, d, hj, hd => by
    have hjl : j < l.length := by omega
    obtain ⟨d1, e1, h1⟩ := rDigits (hl _ (List.getElem_mem hjl))
    obtain ⟨d2, e2, h2⟩ := rPlus hd h1
    obtain ⟨d', e', h'⟩ := r_sum l hl hn m (j + 1) d2 (by omega) (Long_eq h2 (by rw [long_long, wsum_take hjl]))
    refine ⟨d', ?_, h'⟩
    rw [← e']
    refine itr_in ?_
    unfold R33_0 Q33_0
    simp only []
    rw [bif_t (decide_eq_true (by omega)), at_get hjl]
    generalize l[j] = p at *
    obtain ⟨p0, p1⟩ := p
    simp only [Option.bind_some] at *
    rw [e1]
    simp only [Option.bind_some] at *
    rw [e2]
    simp only [Option.bind_some] at *
    rw [wsi (by omega)]
    rfl
/-- The reference's sum. -/
theorem rSum {l : List (Int × Int)} (hl : ∀ p ∈ l, WB p.1 p.2) (hn : l.length ≤ 140737488355328) : N33 (l, ()) = some (wans (wsum l)) := by
  unfold N33 M33
  simp only []
  obtain ⟨d, e, h⟩ := r_sum l hl hn l.length 0 _ (by omega) (by rw [List.take_zero]; exact Long_zero)
  have e := itrs_of e (by omega)
  rw [show ((0 : Nat) : Int) = 0 from rfl] at e
  rw [e]
  simp only [Option.bind_some]
  have hb := wsum_in l hl
  rw [rtold (by omega) h]
  rfl
end Go.Proofs.Ytnlajjeppdchiaa.E
namespace Go.Proofs.Ytnlajjeppdchiaa.E
open Go
set_option linter.unusedVariables false
set_option linter.unusedSimpArgs false
set_option maxRecDepth 100000
theorem q_least {q : List Qe} (h : QHeap q) : ∀ e ∈ q, (q.getD 0 qz).1 ≤ e.1 := fun e he => by
  obtain ⟨c, hc, rfl⟩ := List.getElem_of_mem he
  have := Hp.heap_least qlw h c c (Nat.le_refl _) hc
  rw [Hp.getD_get hc] at this
  unfold qlt at this
  have := of_decide_eq_false this
  omega
theorem nx_some {ts : List Tb} {av : List Int} {i : Nat} {f : Int} (h : nx ts av i = some f) : (av.getD i 0 + 1).toNat < (pcs ts i).length ∧ ((pcs ts i).getD (av.getD i 0 + 1).toNat pz).1 = f := by
  unfold nx nxP at h
  split at h
  · rename_i hh
    injection h with h
    exact ⟨hh, h⟩
  · cases h
/-- Within a step: what waits is at f or beyond it. -/
structure Nw (ts : List Tb) (f : Int) (av : List Int) (q : List Qe) : Prop where
  n : av.length = ts.length
  qs : QS ts av (· < ts.length) q
  l : q.length ≤ ts.length
  a : ∀ i, i < ts.length → -1 ≤ av.getD i 0 ∧ av.getD i 0 < (pcs ts i).length ∧ (0 ≤ av.getD i 0 → ((pcs ts i).getD (av.getD i 0).toNat pz).1 ≤ f)
  w : ∀ e ∈ q, f ≤ e.1
theorem next_step {ts : List Tb} (hn : ts.length ≤ 1000000) (hf : ∀ t ∈ ts, Fit t) {f : Int} {av : List Int} {q : List Qe} (h : Nw ts f av q) :
    (∃ av' q', R20_0 ((ts, av, (q, ()), ()), f, ()) = some (.inl ((ts, av', (q', ()), ()), f, ())) ∧ Nw ts f av' q' ∧ q'.countP (fun e => decide (e.1 = f)) < q.countP (fun e => decide (e.1 = f))) ∨
    (R20_0 ((ts, av, (q, ()), ()), f, ()) = some (.inr ((ts, av, (q, ()), ()), f, ())) ∧ Pre ts f av q) := by
  have hle := q_least h.qs.h
  by_cases h0 : q.length = 0
  · right
    have : q = [] := List.eq_nil_of_length_eq_zero h0
    subst this
    refine ⟨?_, h.n, h.qs, h.l, h.a, by simp⟩
    unfold R20_0 Q20_0
    simp only []
    rw [qLen]
    rfl
  · have hmem : q.getD 0 qz ∈ q := by rw [Hp.getD_get (by omega)]; exact List.getElem_mem _
    have hw := h.w _ hmem
    by_cases hx : (q.getD 0 qz).1 = f
    · left
      obtain ⟨q1, e1, hq1, p1, l1, least⟩ := qPop h.qs.h (by omega) (by have := h.l; omega)
      obtain ⟨i, hi, ei, nxi⟩ := (h.qs.m _).1 hmem
      obtain ⟨k1, k2⟩ := nx_some nxi
      have ha := h.a i hi
      have hfit := fit_at hf hi
      have hfm := hfit.m
      have hpl : (pcs ts i).length ≤ 256 := hfm
      have hs : ∀ j, (av.set i (av.getD i 0 + 1)).getD j 0 = if j = i then av.getD i 0 + 1 else av.getD j 0 := fun j => Hp.getD_set (by have := h.n; omega)
      have hq2 : QS ts (av.set i (av.getD i 0 + 1)) (fun j => j < ts.length ∧ j ≠ i) q1 := (h.qs.pop hq1 p1 ei).ext (fun _ => Iff.rfl) fun j hj => by unfold nx; rw [hs, if_neg hj.2]
      obtain ⟨q2, e2, hh2, p2⟩ := eWait (q := q1) (av := av.set i (av.getD i 0 + 1)) hi (by simp [h.n]) (by rw [hs, if_pos rfl]; omega) (by omega) hq1 (by have := h.l; omega)
      have hq3 := (hq2.push (fun hh => hh.2 rfl) hh2 p2).ext (S' := (· < ts.length)) (fun j => by
        constructor
        · rintro (hh | rfl)
          · exact hh.1
          · exact hi
        · intro hh
          by_cases e : j = i
          · exact .inr e
          · exact .inl ⟨hh, e⟩) fun _ _ => rfl
      have hnew : ∀ e ∈ (nx ts (av.set i (av.getD i 0 + 1)) i).toList.map (fun g => (g, (i : Int))), f < e.1 := by
        intro e he
        obtain ⟨g, hg, rfl⟩ := List.mem_map.1 he
        have hg : nx ts (av.set i (av.getD i 0 + 1)) i = some g := by simpa using hg
        obtain ⟨g1, g2⟩ := nx_some hg
        rw [hs, if_pos rfl] at g1 g2
        have := hfit.lt (show (av.getD i 0 + 1).toNat < (av.getD i 0 + 1 + 1).toNat by omega) g1
        have k2 : ((ts.getD i tz).2.2.getD (av.getD i 0 + 1).toNat pz).1 = _ := k2
        have g2 : ((ts.getD i tz).2.2.getD (av.getD i 0 + 1 + 1).toNat pz).1 = _ := g2
        simp only
        omega
      refine ⟨av.set i (av.getD i 0 + 1), q2, ?_, ⟨by simp [h.n], hq3, ?_, ?_, ?_⟩, ?_⟩
      · unfold R20_0 Q20_0
        simp only []
        rw [qLen]
        simp only [Option.bind_some]
        rw [bif_t (c := decide ((q.length : Int) > 0)) (decide_eq_true (by omega)), decide_eq_true (show 0 < (q.length : Int) by omega), List.getElem?_eq_getElem (show 0 < q.length by omega)]
        rw [Hp.getD_get (show 0 < q.length by omega)] at hx e1 ei
        have hv : av[i]? = some (av.getD i 0) := by rw [List.getElem?_eq_getElem (show i < av.length by have := h.n; omega), Hp.getD_get]
        generalize q[0] = x at *
        obtain ⟨x0, x1⟩ := x
        simp only [Bool.and_self, cond_true, Option.bind_some] at *
        subst hx
        subst ei
        rw [bif_t (c := x0 == x0) (by simp), e1]
        simp only [Option.bind_some]
        rw [bif_t (c := (decide (0 ≤ (i : Int)) && decide ((i : Int) < (av.length : Int)))) (inb (show i < av.length by have := h.n; omega)), Int.toNat_natCast, hv]
        simp only [Option.bind_some]
        rw [wsi (by omega), e2]
        rfl
      · have := p2.length_eq
        rw [List.length_append, List.length_map] at this
        have := toL_len (nx ts (av.set i (av.getD i 0 + 1)) i)
        have := h.l
        omega
      · intro j hj
        rw [hs]
        by_cases e : j = i
        · subst e
          rw [if_pos rfl]
          exact ⟨by omega, by omega, fun _ => by omega⟩
        · rw [if_neg e]
          exact h.a j hj
      · intro e he
        rcases List.mem_append.1 (p2.mem_iff.1 he) with hh | hh
        · exact h.w e (p1.mem_iff.2 (List.mem_cons_of_mem _ hh))
        · have := hnew e hh
          omega
      · rw [p1.countP_eq, p2.countP_eq, List.countP_append, List.countP_cons, if_pos (by simpa using hx)]
        have : List.countP (fun e : Qe => decide (e.1 = f)) ((nx ts (av.set i (av.getD i 0 + 1)) i).toList.map (fun g => (g, (i : Int)))) = 0 := by
          rw [List.countP_eq_zero]
          intro e he
          have := hnew e he
          simp
          omega
        have e := congrArg (List.countP (fun e : Qe => decide (e.1 = f)) q1 + ·) this
        exact Nat.lt_succ_of_le (Nat.le_of_eq e)
    · right
      refine ⟨?_, h.n, h.qs, h.l, h.a, fun e he => ?_⟩
      · unfold R20_0 Q20_0
        simp only []
        rw [qLen]
        simp only [Option.bind_some]
        rw [bif_t (c := decide ((q.length : Int) > 0)) (decide_eq_true (by omega)), decide_eq_true (show 0 < (q.length : Int) by omega), List.getElem?_eq_getElem (show 0 < q.length by omega)]
        rw [Hp.getD_get (show 0 < q.length by omega)] at hx
        generalize q[0] = x at *
        obtain ⟨x0, x1⟩ := x
        simp only [Bool.and_self, cond_true, Option.bind_some] at *
        rw [bif_f (c := x0 == f) (by rw [beq_eq_false_iff_ne]; exact hx)]
      · have := hle e he
        omega
theorem eNext {ts : List Tb} (hn : ts.length ≤ 1000000) (hf : ∀ t ∈ ts, Fit t) {f0 : Int} {av : List Int} {q : List Qe} (h : Pre ts f0 av q) :
    (q = [] ∧ N20 ((ts, av, (q, ()), ()), ()) = some (0, false, (ts, av, (q, ()), ()), ())) ∨
    ∃ f av' q', f0 < f ∧ (∃ e ∈ q, e.1 = f) ∧ (∀ e ∈ q, f ≤ e.1) ∧ N20 ((ts, av, (q, ()), ()), ()) = some (f, true, (ts, av', (q', ()), ()), ()) ∧ Pre ts f av' q' := by
  by_cases h0 : q.length = 0
  · left
    have : q = [] := List.eq_nil_of_length_eq_zero h0
    subst this
    refine ⟨rfl, ?_⟩
    unfold N20 M20
    simp only []
    rw [qLen]
    rfl
  · right
    have hmem : q.getD 0 qz ∈ q := by rw [Hp.getD_get (by omega)]; exact List.getElem_mem _
    have hw := h.w _ hmem
    have hle := q_least h.qs.h
    have h1 : Nw ts (q.getD 0 qz).1 av q := ⟨h.n, h.qs, h.l, fun i hi => ⟨(h.a i hi).1, (h.a i hi).2.1, fun hh => by have := (h.a i hi).2.2 hh; omega⟩, hle⟩
    obtain ⟨y, e, av', q', rfl, hp⟩ := itrs_inv (ro := R20_0) (fun x => ∃ av q', x = ((ts, av, (q', ()), ()), (q.getD 0 qz).1, ()) ∧ Nw ts (q.getD 0 qz).1 av q') (fun x => x.1.2.2.1.1.countP (fun e => decide (e.1 = (q.getD 0 qz).1))) (fun y => ∃ av' q', y = ((ts, av', (q', ()), ()), (q.getD 0 qz).1, ()) ∧ Pre ts (q.getD 0 qz).1 av' q') (by
      rintro x ⟨av1, q1, rfl, hx⟩
      rcases next_step hn hf hx with ⟨av2, q2, e2, n2, c2⟩ | ⟨e2, p2⟩
      · exact .inl ⟨_, e2, ⟨_, _, rfl, n2⟩, c2⟩
      · exact .inr ⟨_, e2, _, _, rfl, p2⟩) (x := ((ts, av, (q, ()), ()), (q.getD 0 qz).1, ())) ⟨_, _, rfl, h1⟩ (by
      have := h.l
      have hh := List.countP_le_length (p := fun e : Qe => decide (e.1 = (q.getD 0 qz).1)) (l := q)
      exact Nat.lt_of_le_of_lt hh (by omega))
    refine ⟨(q.getD 0 qz).1, av', q', hw, ⟨_, hmem, rfl⟩, hle, ?_, hp⟩
    unfold N20 M20
    simp only []
    rw [qLen]
    simp only [Option.bind_some]
    rw [bif_f (c := (q.length : Int) == 0) (by rw [beq_eq_false_iff_ne]; omega), decide_eq_true (show 0 < (q.length : Int) by omega), List.getElem?_eq_getElem (show 0 < q.length by omega)]
    rw [Hp.getD_get (show 0 < q.length by omega)] at e ⊢
    generalize q[0] = x at *
    obtain ⟨x0, x1⟩ := x
    simp only [Bool.and_self, cond_true, Option.bind_some] at *
    rw [e]
    rfl
end Go.Proofs.Ytnlajjeppdchiaa.E
namespace Go.Proofs.Ytnlajjeppdchiaa.E
open Go
set_option linter.unusedVariables false
set_option linter.unusedSimpArgs false
set_option maxRecDepth 100000
abbrev L3 : Type := (Int × Int) × (Int × Int) × (Int × Int)
def fidx (ps : List Pc) (q : Int) : Nat := ((ps.drop 1).takeWhile fun p => decide (p.1 ≤ q)).length
theorem tw_spec (p : Pc → Bool) : ∀ l : List Pc, (l.takeWhile p).length ≤ l.length ∧ (∀ j, j < (l.takeWhile p).length → p (l.getD j pz) = true) ∧ ((l.takeWhile p).length < l.length → p (l.getD (l.takeWhile p).length pz) = false)
  | [] => by simp
  | x :: r => by
    obtain ⟨a, b, c⟩ := tw_spec p r
    cases h : p x with
    | false => simp [List.takeWhile_cons, h]
    | true =>
      rw [List.takeWhile_cons, if_pos h]
      refine ⟨by simp; omega, fun j hj => ?_, fun hh => ?_⟩
      · cases j with
        | zero => simpa using h
        | succ j => simpa using b j (by simpa using hj)
      · simpa using c (by simpa using hh)
theorem idx_spec {ps : List Pc} (h0 : 0 < ps.length) (q : Int) : fidx ps q < ps.length ∧ (∀ j, j < fidx ps q → (ps.getD (j + 1) pz).1 ≤ q) ∧ (fidx ps q + 1 < ps.length → q < (ps.getD (fidx ps q + 1) pz).1) := by
  obtain ⟨a, b, c⟩ := tw_spec (fun p => decide (p.1 ≤ q)) (ps.drop 1)
  have e : ∀ j, (ps.drop 1).getD j pz = ps.getD (j + 1) pz := fun j => by
    rw [List.getD_eq_getElem?_getD, List.getD_eq_getElem?_getD, List.getElem?_drop, Nat.add_comm]
  rw [List.length_drop] at a c
  refine ⟨by unfold fidx; omega, fun j hj => ?_, fun hh => ?_⟩
  · have := b j hj
    rw [e] at this
    exact of_decide_eq_true this
  · have := c (by unfold fidx at hh; omega)
    rw [e] at this
    have := of_decide_eq_false this
    unfold fidx
    omega
theorem idx_eq {ps : List Pc} {q : Int} {a : Nat} (h0 : a < ps.length) (h1 : ∀ j, j < a → (ps.getD (j + 1) pz).1 ≤ q) (h2 : a + 1 < ps.length → q < (ps.getD (a + 1) pz).1) : fidx ps q = a := by
  obtain ⟨x, y, z⟩ := idx_spec (show 0 < ps.length by omega) q
  rcases Nat.lt_trichotomy (fidx ps q) a with h | h | h
  · have := h1 _ h
    have := z (by omega)
    omega
  · exact h
  · have := y _ h
    have := h2 (by omega)
    omega
theorem rFind {ps : List Pc} {q : Int} (h0 : 0 < ps.length) (hl : ps.length ≤ 140737488355328) : N32 (ps, q, ()) = some ((fidx ps q : Int), ()) := by
  obtain ⟨x, y, z⟩ := idx_spec h0 q
  unfold N32 M32
  simp only []
  rw [itrs_seq (fun j => (ps, q, (j : Int), ())) (fidx ps q) (x := (ps, q, 0, ())) rfl (fun j hj => ?_) (y := ((fidx ps q : Int), ())) ?_ (by omega)]
  · rfl
  · unfold R32_0 Q32_0
    simp only []
    rw [wsi (by omega)]
    by_cases hh : fidx ps q + 1 < ps.length
    · rw [bif_t (decide_eq_true (by omega)), wsi (by omega), show ((fidx ps q : Int) + 1) = ((fidx ps q + 1 : Nat) : Int) by omega, at_get hh]
      have := z hh
      rw [Hp.getD_get hh] at this
      generalize ps[fidx ps q + 1] = p at *
      obtain ⟨p0, ⟨p1, p2⟩, ⟨p3, p4⟩, p5, p6⟩ := p
      simp only [Option.bind_some] at *
      rw [bif_f (decide_eq_false (by omega))]
    · rw [bif_f (decide_eq_false (by omega))]
  · have := y j hj
    rw [Hp.getD_get (show j + 1 < ps.length by omega)] at this
    unfold R32_0 Q32_0
    simp only []
    rw [wsi (by omega), bif_t (decide_eq_true (by omega)), wsi (by omega), show ((j : Int) + 1) = ((j + 1 : Nat) : Int) by omega, at_get (show j + 1 < ps.length by omega)]
    generalize ps[j + 1] = p at *
    obtain ⟨p0, ⟨p1, p2⟩, ⟨p3, p4⟩, p5, p6⟩ := p
    simp only [Option.bind_some] at *
    rw [bif_t (decide_eq_true (by omega))]
def ln (q : Int) (t : Tb) : L3 := (t.2.2.getD (fidx t.2.2 q) pz).2
def lines (ts : List Tb) (q : Int) : List L3 := ts.map (ln q)
def colA (l : List L3) : List (Int × Int) := l.map (·.1)
def colB (l : List L3) : List (Int × Int) := l.map (·.2.1)
def colC (l : List L3) : List (Int × Int) := l.map (·.2.2)
def lineOf (l : List L3) : Option L3 :=
  bif (wans (wsum (colA l))).2.1 != 0 then none else bif (wans (wsum (colB l))).2.1 != 0 then none else bif (wans (wsum (colC l))).2.1 != 0 then none else some ((wans (wsum (colA l))).1, (wans (wsum (colB l))).1, (wans (wsum (colC l))).1)
def lineAt (ts : List Tb) (q : Int) : Option L3 := lineOf (lines ts q)
def PB (p : Pc) : Prop := WB p.2.1.1 p.2.1.2 ∧ WB p.2.2.1.1 p.2.2.1.2 ∧ WB p.2.2.2.1 p.2.2.2.2
def TB (ts : List Tb) : Prop := ∀ t ∈ ts, ∀ p ∈ t.2.2, PB p
theorem lines_in {ts : List Tb} (hb : TB ts) (hf : ∀ t ∈ ts, Fit t) (q : Int) : (∀ p ∈ colA (lines ts q), WB p.1 p.2) ∧ (∀ p ∈ colB (lines ts q), WB p.1 p.2) ∧ ∀ p ∈ colC (lines ts q), WB p.1 p.2 := by
  have key : ∀ t ∈ ts, PB (t.2.2.getD (fidx t.2.2 q) pz) := fun t ht => by
    have := (idx_spec (show 0 < t.2.2.length by have := (hf t ht).n; omega) q).1
    rw [Hp.getD_get this]
    exact hb t ht _ (List.getElem_mem this)
  unfold colA colB colC lines
  refine ⟨fun p hp => ?_, fun p hp => ?_, fun p hp => ?_⟩ <;>
  · obtain ⟨l, hl, rfl⟩ := List.mem_map.1 hp
    obtain ⟨t, ht, rfl⟩ := List.mem_map.1 hl
    obtain ⟨k1, k2, k3⟩ := key t ht
    first | exact k1 | exact k2 | exact k3
theorem lines_take {ts : List Tb} {q : Int} {j : Nat} (hj : j < ts.length) : (lines ts q).take (j + 1) = (lines ts q).take j ++ [ln q ts[j]] := by
  rw [List.take_succ_eq_append_getElem (by simpa [lines] using hj)]
  simp [lines]
theorem col_take {γ : Type} (g : L3 → γ) {ts : List Tb} {q : Int} {j : Nat} (hj : j < ts.length) : ((lines ts q).take (j + 1)).map g = ((lines ts q).take j).map g ++ [g (ln q ts[j])] := by
  rw [lines_take hj, List.map_append]
  rfl
/-- Where the loom stands is where the reference looks. -/
theorem pre_idx {ts : List Tb} (hf : ∀ t ∈ ts, Fit t) {f : Int} {av : List Int} {q : List Qe} (h : Pre ts f av q) (f0 : 0 ≤ f) {i : Nat} (hi : i < ts.length) : av.getD i 0 = fidx (pcs ts i) f := by
  obtain ⟨a1, a2, a3⟩ := h.a i hi
  have hfit := fit_at hf hi
  have hw : ∀ x, nx ts av i = some x → f < x := fun x hx => h.w (x, (i : Int)) ((h.qs.m _).2 ⟨i, hi, rfl, hx⟩)
  have a0 : 0 ≤ av.getD i 0 := by
    by_cases e : av.getD i 0 = -1
    · have := hw 0 (by
        unfold nx nxP
        rw [e, if_pos (show (-1 + 1 : Int).toNat < (pcs ts i).length by have := hfit.n; unfold pcs; omega)]
        exact congrArg some hfit.z)
      omega
    · omega
  have := idx_eq (ps := pcs ts i) (q := f) (a := (av.getD i 0).toNat) (by omega) (fun j hj => by
    have h1 := a3 a0
    by_cases e : j + 1 = (av.getD i 0).toNat
    · rw [e]; exact h1
    · have h2 := hfit.lt (show j + 1 < (av.getD i 0).toNat by omega) (show (av.getD i 0).toNat < (pcs ts i).length by omega)
      unfold pcs at *
      omega) (fun hh => hw _ (by
        unfold nx nxP
        rw [if_pos (by omega), show (av.getD i 0 + 1).toNat = (av.getD i 0).toNat + 1 by omega]))
  omega
theorem eSum {ts : List Tb} (hn : ts.length ≤ 1000000) (hb : TB ts) (hf : ∀ t ∈ ts, Fit t) {f : Int} {av : List Int} {q : List Qe} (h : Pre ts f av q) (f0 : 0 ≤ f) :
    N21 ((ts, av, (q, ()), ()), ()) = some (match lineAt ts f with | some L => (L, 0, (ts, av, (q, ()), ()), ()) | none => (((0, 0), (0, 0), (0, 0)), 10, (ts, av, (q, ()), ()), ())) := by
  obtain ⟨b1, b2, b3⟩ := lines_in hb hf f
  have hL : (lines ts f).length = ts.length := by simp [lines]
  unfold N21 M21
  simp only []
  rw [itrs_seq (fun j => ((ts, av, (q, ()), ()), ((0, 0), (0, 0), (0, 0), ()), colA ((lines ts f).take j), colB ((lines ts f).take j), colC ((lines ts f).take j), ts, (ts.length : Int), (j : Int), ())) ts.length (x := ((ts, av, (q, ()), ()), ((0, 0), (0, 0), (0, 0), ()), [], [], [], ts, (ts.length : Int), 0, ())) rfl (fun j hj => ?_) (y := ((ts, av, (q, ()), ()), ((0, 0), (0, 0), (0, 0), ()), colA (lines ts f), colB (lines ts f), colC (lines ts f), ())) ?_ (by omega)]
  · simp only [Option.bind_some]
    rw [wSum b1 (by simp [colA, hL]; omega), wSum b2 (by simp [colB, hL]; omega), wSum b3 (by simp [colC, hL]; omega)]
    unfold lineAt lineOf
    generalize wans (wsum (colA (lines ts f))) = x at *
    generalize wans (wsum (colB (lines ts f))) = y at *
    generalize wans (wsum (colC (lines ts f))) = z at *
    obtain ⟨⟨x1, x2⟩, x3, ⟨⟩⟩ := x
    obtain ⟨⟨y1, y2⟩, y3, ⟨⟩⟩ := y
    obtain ⟨⟨z1, z2⟩, z3, ⟨⟩⟩ := z
    simp only [Option.bind_some]
    cases x3 != 0 <;> cases y3 != 0 <;> cases z3 != 0 <;> rfl
  · unfold R21_0 Q21_0
    simp only []
    rw [bif_f (decide_eq_false (by omega)), List.take_of_length_le (by omega)]
  · have hp := pre_idx hf h f0 hj
    have ha : av[j]? = some (av.getD j 0) := by rw [List.getElem?_eq_getElem (show j < av.length by have := h.n; omega), Hp.getD_get]
    have hs := (idx_spec (show 0 < (pcs ts j).length by have := (fit_at hf hj).n; unfold pcs; omega) f).1
    have hg := at_get hj
    have cA := col_take (·.1) (q := f) hj
    have cB := col_take (·.2.1) (q := f) hj
    have cC := col_take (·.2.2) (q := f) hj
    unfold R21_0 Q21_0
    simp only []
    rw [bif_t (decide_eq_true (by omega)), hg]
    unfold pcs at hp hs
    rw [Hp.getD_get hj] at hp hs
    unfold ln at cA cB cC
    generalize ts[j] = t at *
    obtain ⟨t0, t1, ps⟩ := t
    simp only [Option.bind_some] at *
    rw [bif_t (inb (show j < av.length by have := h.n; omega)), Int.toNat_natCast, ha]
    simp only [Option.bind_some]
    rw [hp, at_get hs]
    rw [Hp.getD_get hs] at cA cB cC
    generalize ps[fidx ps f] = p at *
    obtain ⟨p0, ⟨p1, p2⟩, ⟨p3, p4⟩, p5, p6⟩ := p
    simp only [Option.bind_some] at *
    have l1 : (colA ((lines ts f).take j)).length = j := by simp [colA, hL]; omega
    have l2 : (colB ((lines ts f).take j)).length = j := by simp [colB, hL]; omega
    have l3 : (colC ((lines ts f).take j)).length = j := by simp [colC, hL]; omega
    rw [l1, l2, l3, bif_t (decide_eq_true (by omega))]
    simp only [Option.bind_some]
    rw [wsi (by omega)]
    unfold colA colB colC
    rw [cA, cB, cC]
    rfl
theorem rSumAt {ts : List Tb} (hn : ts.length ≤ 1000000) (hb : TB ts) (hf : ∀ t ∈ ts, Fit t) (f : Int) :
    ∃ L, N23 (ts, f, ()) = some (L, (lineAt ts f).isSome, ()) ∧ ∀ K, lineAt ts f = some K → L = K := by
  obtain ⟨b1, b2, b3⟩ := lines_in hb hf f
  have hL : (lines ts f).length = ts.length := by simp [lines]
  unfold N23 M23
  simp only []
  rw [itrs_seq (fun j => (ts, f, ((0, 0), (0, 0), (0, 0), ()), colA ((lines ts f).take j), colB ((lines ts f).take j), colC ((lines ts f).take j), (j : Int), ())) ts.length (x := (ts, f, ((0, 0), (0, 0), (0, 0), ()), [], [], [], 0, ())) rfl (fun j hj => ?_) (y := (((0, 0), (0, 0), (0, 0), ()), colA (lines ts f), colB (lines ts f), colC (lines ts f), ())) ?_ (by omega)]
  · simp only [Option.bind_some]
    rw [rSum b1 (by simp [colA, hL]; omega), rSum b2 (by simp [colB, hL]; omega), rSum b3 (by simp [colC, hL]; omega)]
    unfold lineAt lineOf
    generalize wans (wsum (colA (lines ts f))) = x at *
    generalize wans (wsum (colB (lines ts f))) = y at *
    generalize wans (wsum (colC (lines ts f))) = z at *
    obtain ⟨⟨x1, x2⟩, x3, ⟨⟩⟩ := x
    obtain ⟨⟨y1, y2⟩, y3, ⟨⟩⟩ := y
    obtain ⟨⟨z1, z2⟩, z3, ⟨⟩⟩ := z
    refine ⟨((x1, x2), (y1, y2), (z1, z2)), ?_, ?_⟩
    · simp only [Option.bind_some, show ∀ a : Int, (a != 0) = !(a == 0) from fun _ => rfl]
      cases x3 == 0 <;> cases y3 == 0 <;> cases z3 == 0 <;> rfl
    · simp only
      cases x3 != 0 <;> cases y3 != 0 <;> cases z3 != 0 <;> intro K hK <;> first | exact Option.some.inj hK | cases hK
  · unfold R23_0 Q23_0
    simp only []
    rw [bif_f (decide_eq_false (by omega)), List.take_of_length_le (by omega)]
  · have hfit := hf _ (List.getElem_mem hj)
    have hg := at_get hj
    have cA := col_take (·.1) (q := f) hj
    have cB := col_take (·.2.1) (q := f) hj
    have cC := col_take (·.2.2) (q := f) hj
    unfold R23_0 Q23_0
    simp only []
    rw [bif_t (decide_eq_true (by omega)), hg]
    unfold ln at cA cB cC
    generalize ts[j] = t at *
    obtain ⟨t0, t1, ps⟩ := t
    have hn1 := hfit.n
    have hm1 := hfit.m
    simp only [Option.bind_some] at *
    have hs := (idx_spec (show 0 < ps.length by omega) f).1
    rw [rFind (show 0 < ps.length by omega) (by omega)]
    simp only [Option.bind_some]
    rw [at_get hs]
    rw [Hp.getD_get hs] at cA cB cC
    generalize ps[fidx ps f] = p at *
    obtain ⟨p0, ⟨p1, p2⟩, ⟨p3, p4⟩, p5, p6⟩ := p
    simp only [Option.bind_some] at *
    have l1 : (colA ((lines ts f).take j)).length = j := by simp [colA, hL]; omega
    have l2 : (colB ((lines ts f).take j)).length = j := by simp [colB, hL]; omega
    have l3 : (colC ((lines ts f).take j)).length = j := by simp [colC, hL]; omega
    rw [l1, l2, l3, bif_t (decide_eq_true (by omega))]
    simp only [Option.bind_some]
    rw [wsi (by omega)]
    unfold colA colB colC
    rw [cA, cB, cC]
    rfl
end Go.Proofs.Ytnlajjeppdchiaa.E
namespace Go.Proofs.Ytnlajjeppdchiaa.E
open Go
set_option linter.unusedVariables false
set_option linter.unusedSimpArgs false
set_option maxRecDepth 100000
def eqL (a b : L3) : Bool := a.1.1 == b.1.1 && a.1.2 == b.1.2 && (a.2.1.1 == b.2.1.1 && a.2.1.2 == b.2.1.2 && (a.2.2.1 == b.2.2.1 && a.2.2.2 == b.2.2.2))
/-- The pieces of a weave, from the places on. -/
def weave (ts : List Tb) : List Int → List Pc → List Pc ⊕ Int
  | [], out => .inl out
  | q :: D, out => match lineAt ts q with
    | none => .inr 10
    | some L => bif decide (0 < out.length) && eqL (out.getD (out.length - 1) pz).2 L then weave ts D out else bif decide (out.length = 256) then .inr 120 else weave ts D (out ++ [(q, L)])
abbrev Oz : Type := Int × Int × List Pc × Unit
def oz : Oz := (0, 0, [], ())
def fin (s c : Int) : List Pc ⊕ Int → (Oz × Oz × Unit) ⊕ (Oz × Int × Unit)
  | .inl out => .inl (oz, (s, c, out, ()), ())
  | .inr e => .inr (oz, e, ())
/-- The places that are still ahead. -/
structure Cv (ts : List Tb) (f : Int) (D : List Int) : Prop where
  a : ∀ x ∈ froms ts, x ≤ f ∨ x ∈ D
  s : D.Pairwise (· < ·)
  m : ∀ x ∈ D, f < x ∧ x ∈ froms ts
theorem mem_froms {ts : List Tb} {x : Int} : x ∈ froms ts ↔ ∃ i, i < ts.length ∧ ∃ j, j < (pcs ts i).length ∧ ((pcs ts i).getD j pz).1 = x := by
  unfold froms fr1 pcs
  rw [List.mem_flatMap]
  constructor
  · rintro ⟨t, ht, hx⟩
    obtain ⟨p, hp, rfl⟩ := List.mem_map.1 hx
    obtain ⟨i, hi, rfl⟩ := List.getElem_of_mem ht
    obtain ⟨j, hj, rfl⟩ := List.getElem_of_mem hp
    refine ⟨i, hi, j, ?_, ?_⟩
    · rw [Hp.getD_get hi]; exact hj
    · rw [Hp.getD_get hi, Hp.getD_get hj]
  · rintro ⟨i, hi, j, hj, rfl⟩
    rw [Hp.getD_get hi] at hj ⊢
    rw [Hp.getD_get hj]
    exact ⟨_, List.getElem_mem hi, List.mem_map_of_mem (List.getElem_mem hj)⟩
theorem pre_mem {ts : List Tb} {f : Int} {av : List Int} {q : List Qe} (h : Pre ts f av q) : ∀ e ∈ q, e.1 ∈ froms ts := fun e he => by
  obtain ⟨i, hi, _, hx⟩ := (h.qs.m e).1 he
  obtain ⟨k1, k2⟩ := nx_some hx
  exact mem_froms.2 ⟨i, hi, _, k1, k2⟩
theorem pre_next {ts : List Tb} (hf : ∀ t ∈ ts, Fit t) {f : Int} {av : List Int} {q : List Qe} (h : Pre ts f av q) {x : Int} (hx : x ∈ froms ts) (hl : f < x) : ∃ e ∈ q, e.1 ≤ x := by
  obtain ⟨i, hi, j, hj, rfl⟩ := mem_froms.1 hx
  have hfit := fit_at hf hi
  obtain ⟨a1, a2, a3⟩ := h.a i hi
  have hjg : av.getD i 0 + 1 ≤ (j : Int) := by
    by_cases a0 : 0 ≤ av.getD i 0
    · have h1 := a3 a0
      by_cases e : j ≤ (av.getD i 0).toNat
      · by_cases e2 : j = (av.getD i 0).toNat
        · rw [← e2] at h1
          omega
        · have := hfit.lt (show j < (av.getD i 0).toNat by omega) (show (av.getD i 0).toNat < (pcs ts i).length by omega)
          unfold pcs at *
          omega
      · omega
    · omega
  have hn : nx ts av i = some ((pcs ts i).getD (av.getD i 0 + 1).toNat pz).1 := if_pos (by omega)
  refine ⟨(((pcs ts i).getD (av.getD i 0 + 1).toNat pz).1, (i : Int)), (h.qs.m _).2 ⟨i, hi, rfl, hn⟩, ?_⟩
  simp only
  by_cases e : (av.getD i 0 + 1).toNat = j
  · rw [e]; exact Int.le_refl _
  · have := hfit.lt (show (av.getD i 0 + 1).toNat < j by omega) hj
    unfold pcs at *
    omega
theorem eNext2 {ts : List Tb} (hn : ts.length ≤ 1000000) (hf : ∀ t ∈ ts, Fit t) {f : Int} {av : List Int} {q : List Qe} (h : Pre ts f av q) {D : List Int} (hD : Cv ts f D) :
    match D with
    | [] => N20 ((ts, av, (q, ()), ()), ()) = some (0, false, (ts, av, (q, ()), ()), ())
    | d :: D' => ∃ av' q', N20 ((ts, av, (q, ()), ()), ()) = some (d, true, (ts, av', (q', ()), ()), ()) ∧ Pre ts d av' q' ∧ Cv ts d D' := by
  cases D with
  | nil =>
    rcases eNext hn hf h with ⟨_, e⟩ | ⟨g, av', q', hl, ⟨e, he, rfl⟩, _, _, _⟩
    · exact e
    · rcases hD.a _ (pre_mem h e he) with hh | hh
      · omega
      · cases hh
  | cons d D' =>
    obtain ⟨s1, s2⟩ := List.pairwise_cons.1 hD.s
    obtain ⟨d1, d2⟩ := hD.m d (by simp)
    obtain ⟨e0, he0, hle0⟩ := pre_next hf h d2 d1
    rcases eNext hn hf h with ⟨rfl, e⟩ | ⟨g, av', q', hl, ⟨e, he, rfl⟩, hle, hN, hP⟩
    · cases he0
    · have ed : e.1 = d := by
        have := hle e0 he0
        rcases hD.a _ (pre_mem h e he) with hh | hh
        · omega
        · rcases List.mem_cons.1 hh with hh | hh
          · exact hh
          · have := s1 _ hh
            omega
      rw [ed] at hN hP
      refine ⟨av', q', hN, hP, fun x hx => ?_, s2, fun x hx => ⟨s1 x hx, (hD.m x (by simp [hx])).2⟩⟩
      rcases hD.a x hx with hh | hh
      · exact .inl (by omega)
      · rcases List.mem_cons.1 hh with rfl | hh
        · exact .inl (Int.le_refl _)
        · exact .inr hh
theorem e_run {ts : List Tb} (hn : ts.length ≤ 1000000) (hb : TB ts) (hf : ∀ t ∈ ts, Fit t) (s c : Int) : ∀ (D : List Int) (f0 : Int) (av : List Int) (q : List Qe) (out : List Pc), -1 ≤ f0 → Pre ts f0 av q → Cv ts f0 D → out.length ≤ 256 →
    ∃ f ok w, N20 ((ts, av, (q, ()), ()), ()) = some (f, ok, w, ()) ∧ itr R9_2 (D.length + 1) (oz, (s, c, out, ()), w, f, ok, ()) = some (fin s c (weave ts D out))
  | [], f0, av, q, out, h0, h, hD, ho => by
    refine ⟨0, false, _, eNext2 hn hf h hD, itr_out ?_⟩
    unfold R9_2 Q9_2
    rfl
  | d :: D, f0, av, q, out, h0, h, hD, ho => by
    obtain ⟨av', q', e, hP, hD'⟩ := eNext2 hn hf h hD
    have hd := (hD.m d (by simp)).1
    refine ⟨d, true, _, e, ?_⟩
    have hS := eSum hn hb hf hP (show 0 ≤ d by omega)
    unfold weave
    cases hL : lineAt ts d with
    | none =>
      rw [hL] at hS
      refine itr_out ?_
      unfold R9_2 Q9_2 oz
      simp only [cond_true]
      rw [hS]
      rfl
    | some L =>
      rw [hL] at hS
      simp only at hS ⊢
      by_cases h1 : 0 < out.length
      · have hg : out[(((out.length - 1 : Nat) : Int)).toNat]? = some (out.getD (out.length - 1) pz) := by rw [Int.toNat_natCast, List.getElem?_eq_getElem (show out.length - 1 < out.length by omega), Hp.getD_get]
        rw [decide_eq_true h1]
        cases h2 : eqL (out.getD (out.length - 1) pz).2 L with
        | true =>
          obtain ⟨f', ok', w', en, ei⟩ := e_run hn hb hf s c D d av' q' out (by omega) hP hD' ho
          simp only [Bool.and_self, cond_true]
          rw [← ei]
          refine itr_in ?_
          unfold R9_2 Q9_2 oz
          simp only [cond_true]
          rw [hS]
          generalize out.getD (out.length - 1) pz = p at *
          obtain ⟨p0, ⟨p1, p2⟩, ⟨p3, p4⟩, p5, p6⟩ := p
          obtain ⟨⟨l1, l2⟩, ⟨l3, l4⟩, l5, l6⟩ := L
          simp only [Option.bind_some] at *
          rw [bif_f (c := (0 : Int) != 0) rfl, bif_t (c := decide ((out.length : Int) > 0)) (decide_eq_true (by omega)), wsi (by omega), show (out.length : Int) - 1 = ((out.length - 1 : Nat) : Int) by omega, bif_t (inb (show out.length - 1 < out.length by omega)), hg]
          simp only [Option.bind_some]
          unfold eqL at h2
          simp only at h2
          rw [h2, en]
          obtain ⟨w0, w1, ⟨w2, ⟨⟩⟩, ⟨⟩⟩ := w'
          rfl
        | false =>
          simp only [Bool.and_false, cond_false]
          by_cases h3 : out.length = 256
          · rw [bif_t (decide_eq_true h3)]
            refine itr_out ?_
            unfold R9_2 Q9_2 oz
            simp only [cond_true]
            rw [hS]
            generalize out.getD (out.length - 1) pz = p at *
            obtain ⟨p0, ⟨p1, p2⟩, ⟨p3, p4⟩, p5, p6⟩ := p
            obtain ⟨⟨l1, l2⟩, ⟨l3, l4⟩, l5, l6⟩ := L
            simp only [Option.bind_some] at *
            rw [bif_f (c := (0 : Int) != 0) rfl, bif_t (c := decide ((out.length : Int) > 0)) (decide_eq_true (by omega)), wsi (by omega), show (out.length : Int) - 1 = ((out.length - 1 : Nat) : Int) by omega, bif_t (inb (show out.length - 1 < out.length by omega)), hg]
            simp only [Option.bind_some]
            unfold eqL at h2
            simp only at h2
            rw [h2, bif_t (c := (out.length : Int) == 256) (by rw [beq_iff_eq]; omega)]
            rfl
          · obtain ⟨f', ok', w', en, ei⟩ := e_run hn hb hf s c D d av' q' (out ++ [(d, L)]) (by omega) hP hD' (by simp; omega)
            rw [bif_f (decide_eq_false h3), ← ei]
            refine itr_in ?_
            unfold R9_2 Q9_2 oz
            simp only [cond_true]
            rw [hS]
            generalize out.getD (out.length - 1) pz = p at *
            obtain ⟨p0, ⟨p1, p2⟩, ⟨p3, p4⟩, p5, p6⟩ := p
            obtain ⟨⟨l1, l2⟩, ⟨l3, l4⟩, l5, l6⟩ := L
            simp only [Option.bind_some] at *
            rw [bif_f (c := (0 : Int) != 0) rfl, bif_t (c := decide ((out.length : Int) > 0)) (decide_eq_true (by omega)), wsi (by omega), show (out.length : Int) - 1 = ((out.length - 1 : Nat) : Int) by omega, bif_t (inb (show out.length - 1 < out.length by omega)), hg]
            simp only [Option.bind_some]
            unfold eqL at h2
            simp only at h2
            rw [h2, bif_f (c := (out.length : Int) == 256) (by rw [beq_eq_false_iff_ne]; omega), bif_t (c := decide ((out.length + 1) * 56 ≤ 210000000000000)) (decide_eq_true (by omega)), en]
            obtain ⟨w0, w1, ⟨w2, ⟨⟩⟩, ⟨⟩⟩ := w'
            rfl
      · obtain ⟨f', ok', w', en, ei⟩ := e_run hn hb hf s c D d av' q' (out ++ [(d, L)]) (by omega) hP hD' (by simp; omega)
        rw [decide_eq_false h1]
        simp only [Bool.false_and, cond_false]
        rw [bif_f (decide_eq_false (show ¬ out.length = 256 by omega)), ← ei]
        refine itr_in ?_
        unfold R9_2 Q9_2 oz
        simp only [cond_true]
        rw [hS]
        obtain ⟨⟨l1, l2⟩, ⟨l3, l4⟩, l5, l6⟩ := L
        simp only [Option.bind_some]
        rw [bif_f (c := (0 : Int) != 0) rfl, bif_f (c := decide ((out.length : Int) > 0)) (decide_eq_false (by omega)), bif_f (c := (out.length : Int) == 256) (by rw [beq_eq_false_iff_ne]; omega), bif_t (c := decide ((out.length + 1) * 56 ≤ 210000000000000)) (decide_eq_true (by omega))]
        simp only [Option.bind_some]
        rw [en]
        obtain ⟨w0, w1, ⟨w2, ⟨⟩⟩, ⟨⟩⟩ := w'
        rfl
end Go.Proofs.Ytnlajjeppdchiaa.E
namespace Go.Proofs.Ytnlajjeppdchiaa.E
open Go
set_option linter.unusedVariables false
set_option linter.unusedSimpArgs false
set_option maxRecDepth 100000
theorem r_run {ts : List Tb} (hn : ts.length ≤ 1000000) (hb : TB ts) (hf : ∀ t ∈ ts, Fit t) (s c : Int) (C : List Int) (hC : C.length ≤ 1000000) : ∀ (m k : Nat) (out : List Pc), k + m = C.length → (k = 0 ↔ out.length = 0) → out.length ≤ 256 →
    itr R10_2 (m + 1) (ts, oz, (s, c, out, ()), C, (k : Int), ()) = some (fin s c (weave ts (C.drop k) out))
  | 0, k, out, hk, h0, ho => by
    rw [List.drop_eq_nil_of_le (by omega)]
    refine itr_out ?_
    unfold R10_2 Q10_2 oz
    simp only []
    rw [bif_f (decide_eq_false (by omega))]
    rfl
  | m + 1, k, out, hk, h0, ho => by
    have hkl : k < C.length := by omega
    have hg := at_get hkl
    obtain ⟨L, e, hL⟩ := rSumAt hn hb hf C[k]
    rw [List.drop_eq_getElem_cons hkl]
    unfold weave
    have hq : C[(k : Int).toNat]? = some C[k] := by rw [Int.toNat_natCast, List.getElem?_eq_getElem hkl]
    cases h1 : lineAt ts C[k] with
    | none =>
      rw [h1] at e
      refine itr_out ?_
      unfold R10_2 Q10_2 oz
      simp only []
      rw [bif_t (c := decide ((k : Int) < (C.length : Int))) (decide_eq_true (by omega)), bif_t (inb hkl), hq]
      simp only [Option.bind_some]
      rw [e]
      rfl
    | some K =>
      rw [h1] at e
      have := hL K h1
      subst this
      simp only [Option.isSome_some] at e ⊢
      by_cases h2 : 0 < out.length
      · have hl : out[(((out.length - 1 : Nat) : Int)).toNat]? = some (out.getD (out.length - 1) pz) := by rw [Int.toNat_natCast, List.getElem?_eq_getElem (show out.length - 1 < out.length by omega), Hp.getD_get]
        rw [decide_eq_true h2]
        cases h3 : eqL (out.getD (out.length - 1) pz).2 L with
        | true =>
          simp only [Bool.and_self, cond_true]
          rw [← r_run hn hb hf s c C hC m (k + 1) out (by omega) (by omega) ho]
          refine itr_in ?_
          unfold R10_2 Q10_2 oz
          simp only []
          rw [bif_t (c := decide ((k : Int) < (C.length : Int))) (decide_eq_true (by omega)), bif_t (inb hkl), hq]
          simp only [Option.bind_some]
          rw [e]
          generalize out.getD (out.length - 1) pz = p at *
          obtain ⟨p0, ⟨p1, p2⟩, ⟨p3, p4⟩, p5, p6⟩ := p
          obtain ⟨⟨l1, l2⟩, ⟨l3, l4⟩, l5, l6⟩ := L
          simp only [Option.bind_some, Bool.not_true, cond_false] at *
          rw [bif_t (c := decide ((k : Int) > 0)) (decide_eq_true (by omega)), wsi (n := (out.length : Int) - 1) (by omega), show (out.length : Int) - 1 = ((out.length - 1 : Nat) : Int) by omega, bif_t (inb (show out.length - 1 < out.length by omega)), hl]
          simp only [Option.bind_some]
          unfold eqL at h3
          simp only at h3
          rw [h3, wsi (by omega)]
          rfl
        | false =>
          simp only [Bool.and_false, cond_false]
          by_cases h4 : out.length = 256
          · rw [bif_t (decide_eq_true h4)]
            refine itr_out ?_
            unfold R10_2 Q10_2 oz
            simp only []
            rw [bif_t (c := decide ((k : Int) < (C.length : Int))) (decide_eq_true (by omega)), bif_t (inb hkl), hq]
            simp only [Option.bind_some]
            rw [e]
            generalize out.getD (out.length - 1) pz = p at *
            obtain ⟨p0, ⟨p1, p2⟩, ⟨p3, p4⟩, p5, p6⟩ := p
            obtain ⟨⟨l1, l2⟩, ⟨l3, l4⟩, l5, l6⟩ := L
            simp only [Option.bind_some, Bool.not_true, cond_false] at *
            rw [bif_t (c := decide ((k : Int) > 0)) (decide_eq_true (by omega)), wsi (n := (out.length : Int) - 1) (by omega), show (out.length : Int) - 1 = ((out.length - 1 : Nat) : Int) by omega, bif_t (inb (show out.length - 1 < out.length by omega)), hl]
            simp only [Option.bind_some]
            unfold eqL at h3
            simp only at h3
            rw [h3, bif_t (c := (out.length : Int) == 256) (by rw [beq_iff_eq]; omega)]
            rfl
          · rw [bif_f (decide_eq_false h4), ← r_run hn hb hf s c C hC m (k + 1) (out ++ [(C[k], L)]) (by omega) (by simp) (by simp; omega)]
            refine itr_in ?_
            unfold R10_2 Q10_2 oz
            simp only []
            rw [bif_t (c := decide ((k : Int) < (C.length : Int))) (decide_eq_true (by omega)), bif_t (inb hkl), hq]
            simp only [Option.bind_some]
            rw [e]
            generalize out.getD (out.length - 1) pz = p at *
            obtain ⟨p0, ⟨p1, p2⟩, ⟨p3, p4⟩, p5, p6⟩ := p
            obtain ⟨⟨l1, l2⟩, ⟨l3, l4⟩, l5, l6⟩ := L
            simp only [Option.bind_some, Bool.not_true, cond_false] at *
            rw [bif_t (c := decide ((k : Int) > 0)) (decide_eq_true (by omega)), wsi (n := (out.length : Int) - 1) (by omega), show (out.length : Int) - 1 = ((out.length - 1 : Nat) : Int) by omega, bif_t (inb (show out.length - 1 < out.length by omega)), hl]
            simp only [Option.bind_some]
            unfold eqL at h3
            simp only at h3
            rw [h3, bif_f (c := (out.length : Int) == 256) (by rw [beq_eq_false_iff_ne]; omega), bif_t (c := decide ((out.length + 1) * 56 ≤ 210000000000000)) (decide_eq_true (by omega)), wsi (by omega)]
            rfl
      · rw [decide_eq_false h2]
        simp only [Bool.false_and, cond_false]
        rw [bif_f (decide_eq_false (show ¬ out.length = 256 by omega)), ← r_run hn hb hf s c C hC m (k + 1) (out ++ [(C[k], L)]) (by omega) (by simp) (by simp; omega)]
        refine itr_in ?_
        unfold R10_2 Q10_2 oz
        simp only []
        rw [bif_t (c := decide ((k : Int) < (C.length : Int))) (decide_eq_true (by omega)), bif_t (inb hkl), hq]
        simp only [Option.bind_some]
        rw [e]
        obtain ⟨⟨l1, l2⟩, ⟨l3, l4⟩, l5, l6⟩ := L
        simp only [Option.bind_some, Bool.not_true, cond_false]
        rw [bif_f (c := decide ((k : Int) > 0)) (decide_eq_false (by omega)), bif_f (c := (out.length : Int) == 256) (by rw [beq_eq_false_iff_ne]; omega), bif_t (c := decide ((out.length + 1) * 56 ≤ 210000000000000)) (decide_eq_true (by omega))]
        simp only [Option.bind_some]
        rw [wsi (by omega)]
        rfl
/-- One of the tables isn't in its form, or not like the first one. -/
def badJ (ts : List Tb) (j : Nat) : Bool := !chkT (ts.getD j tz) || (ts.getD j tz).1 != (ts.getD 0 tz).1 || (ts.getD j tz).2.1 != (ts.getD 0 tz).2.1
def badW (ts : List Tb) : Bool := (List.range' 0 ts.length).any (badJ ts)
theorem bif3n {α : Type} {a b c : Bool} {x y : α} : (bif !a then x else bif b then x else bif c then x else y) = bif (!a || b || c) then x else y := by cases a <;> cases b <;> cases c <;> rfl
theorem e_chk {ts : List Tb} (hts : ts.length ≤ 140737488355328) (hps : ∀ t ∈ ts, t.2.2.length ≤ 140737488355328) : itrs R9_0 (ts, oz, ((ts.getD 0 tz).1, (ts.getD 0 tz).2.1, [], ()), ts, (ts.length : Int), 0, ()) = some (bif badW ts then .inr (oz, 1, ()) else .inl (ts, oz, ((ts.getD 0 tz).1, (ts.getD 0 tz).2.1, [], ()), ())) := by
  refine itrs_any (fun j => (ts, oz, ((ts.getD 0 tz).1, (ts.getD 0 tz).2.1, [], ()), ts, (ts.length : Int), (j : Int), ())) (badJ ts) _ _ ts.length rfl (fun j hj => ?_) ?_ (by omega)
  · have hg := at_get hj
    have hc := eCheck ts[j] (hps _ (List.getElem_mem hj))
    unfold R9_0 Q9_0 oz badJ
    simp only []
    rw [bif_t (decide_eq_true (by omega)), hg, Hp.getD_get hj]
    generalize ts[j] = t at *
    obtain ⟨t0, t1, ps⟩ := t
    simp only [Option.bind_some] at *
    rw [hc]
    simp only [Option.bind_some]
    rw [wsi (by omega)]
    exact bif3n
  · unfold R9_0 Q9_0
    simp only []
    rw [bif_f (decide_eq_false (by omega))]
theorem r_chk {ts : List Tb} (hts : ts.length ≤ 140737488355328) (hps : ∀ t ∈ ts, t.2.2.length ≤ 140737488355328) : itrs R10_0 (ts, oz, 0, ()) = some (bif badW ts then .inr (oz, 1, ()) else .inl (ts, oz, ())) := by
  refine itrs_any (fun j => (ts, oz, (j : Int), ())) (badJ ts) _ _ ts.length rfl (fun j hj => ?_) ?_ (by omega)
  · have hg := at_get hj
    have hc := rCheck ts[j] (hps _ (List.getElem_mem hj))
    have hz : ts[0]? = some (ts.getD 0 tz) := by rw [List.getElem?_eq_getElem (show 0 < ts.length by omega), Hp.getD_get]
    unfold R10_0 Q10_0 oz badJ
    simp only []
    rw [bif_t (decide_eq_true (by omega)), hg, hz, Hp.getD_get hj]
    generalize ts.getD 0 tz = z at *
    generalize ts[j] = t at *
    obtain ⟨t0, t1, ps⟩ := t
    obtain ⟨z0, z1, zs⟩ := z
    simp only [Option.bind_some] at *
    rw [hc]
    simp only [Option.bind_some]
    rw [wsi (by omega)]
    exact bif3n
  · unfold R10_0 Q10_0
    simp only []
    rw [bif_f (decide_eq_false (by omega))]
theorem bad_fit {ts : List Tb} (h : badW ts = false) : ∀ t ∈ ts, Fit t := fun t ht => by
  obtain ⟨j, hj, rfl⟩ := List.getElem_of_mem ht
  unfold badW at h
  rw [List.any_eq_false] at h
  have h := h j (by simp; omega)
  unfold badJ at h
  rw [Hp.getD_get hj] at h
  exact chk_fit (by cases e : chkT ts[j] <;> simp_all)
/-- What a weave answers. -/
def wvAns (ts : List Tb) (C : List Int) : (Int × Int × List Pc) × Int × Unit :=
  bif decide (ts.length = 0) then ((0, 0, []), 1, ()) else bif badW ts then ((0, 0, []), 1, ()) else
  match weave ts C [] with
  | .inl out => (((ts.getD 0 tz).1, (ts.getD 0 tz).2.1, out), 0, ())
  | .inr e => ((0, 0, []), e, ())
theorem eWeave {ts : List Tb} (hn : ts.length ≤ 1000000) (hb : TB ts) (hps : ∀ t ∈ ts, t.2.2.length ≤ 140737488355328) {C : List Int} (hC : Cut (froms ts) C) (hl : C.length ≤ 1000000) : N9 (ts, ()) = some (wvAns ts C) := by
  unfold N9 M9 wvAns
  simp only []
  by_cases h0 : ts.length = 0
  · rw [bif_t (len0 h0), bif_t (decide_eq_true h0)]
  · have hz : ts[0]? = some (ts.getD 0 tz) := by rw [List.getElem?_eq_getElem (show 0 < ts.length by omega), Hp.getD_get]
    have hc := e_chk (by omega) hps
    rw [bif_f (lenN h0), bif_f (decide_eq_false h0), hz]
    generalize ts.getD 0 tz = z at *
    obtain ⟨z0, z1, zs⟩ := z
    unfold oz at hc
    simp only [Option.bind_some] at *
    rw [hc]
    cases hbad : badW ts with
    | true => rfl
    | false =>
      simp only [cond_false, Option.bind_some]
      have hf := bad_fit hbad
      obtain ⟨av, q, eS, hP⟩ := eSet hn hf
      rw [eS]
      simp only [Option.bind_some]
      obtain ⟨f, ok, w, en, ei⟩ := e_run hn hb hf z0 z1 C (-1) av q [] (Int.le_refl _) hP ⟨fun x hx => .inr ((hC.m x).2 hx), hC.s, fun x hx => by
        have hx := (hC.m x).1 hx
        refine ⟨?_, hx⟩
        obtain ⟨i, hi, j, hj, rfl⟩ := mem_froms.1 hx
        have := fit_nonneg (fit_at hf hi) hj
        unfold pcs
        omega⟩ (by simp)
      rw [en]
      obtain ⟨w0, w1, ⟨w2, ⟨⟩⟩, ⟨⟩⟩ := w
      simp only [Option.bind_some]
      have ei := itrs_of ei (by omega)
      unfold oz at ei
      rw [ei]
      cases weave ts C [] <;> rfl
theorem rWeave {ts : List Tb} (hn : ts.length ≤ 1000000) (hb : TB ts) (hps : ∀ t ∈ ts, t.2.2.length ≤ 140737488355328) {C : List Int} (hC : Cut (froms ts) C) (hl : C.length ≤ 4096) : N10 (ts, ()) = some (wvAns ts C) := by
  unfold N10 M10 wvAns
  simp only []
  by_cases h0 : ts.length = 0
  · rw [bif_t (len0 h0), bif_t (decide_eq_true h0)]
  · have hz : ts[0]? = some (ts.getD 0 tz) := by rw [List.getElem?_eq_getElem (show 0 < ts.length by omega), Hp.getD_get]
    have hc := r_chk (by omega) hps
    rw [bif_f (lenN h0), bif_f (decide_eq_false h0)]
    unfold oz at hc
    rw [hc]
    cases hbad : badW ts with
    | true => rfl
    | false =>
      simp only [cond_false, Option.bind_some]
      have hf := bad_fit hbad
      rw [hz, rCuts (by omega) hps hC hl]
      generalize ts.getD 0 tz = z at *
      obtain ⟨z0, z1, zs⟩ := z
      simp only [Option.bind_some]
      have ei := itrs_of (r_run hn hb hf z0 z1 C (by omega) C.length 0 [] (by omega) (by simp) (by simp)) (by omega)
      unfold oz at ei
      rw [show ((0 : Nat) : Int) = 0 from rfl] at ei
      rw [ei, List.drop_zero]
      cases weave ts C [] <;> rfl
/-- A table is the same as itself. -/
theorem rSameT (t : Tb) (hl : t.2.2.length ≤ 140737488355328) : N11 (t, t, ()) = some (true, ()) := by
  obtain ⟨s, c, l⟩ := t
  unfold N11 M11
  simp only [bne_self_eq_false, cond_false] at hl ⊢
  have hL := itrs_seq (ro := R11_0) (fun j => ((s, c, l, ()), (s, c, l, ()), (j : Int), ())) l.length (x := ((s, c, l, ()), (s, c, l, ()), 0, ())) (y := .inl ()) rfl (fun j hj => by
    unfold R11_0 Q11_0
    simp only []
    rw [bif_t (decide_eq_true (by omega)), at_get hj]
    generalize l[j] = p at *
    obtain ⟨p0, ⟨p1, p2⟩, ⟨p3, p4⟩, p5, p6⟩ := p
    simp only [Option.bind_some, beq_self_eq_true, Bool.and_self, Bool.not_true, cond_false]
    rw [wsi (by omega)]
    rfl) (by
    unfold R11_0 Q11_0
    simp only []
    rw [bif_f (decide_eq_false (by omega))]) (by omega)
  rw [hL]
  rfl
end Go.Proofs.Ytnlajjeppdchiaa.E
namespace Go.Proofs.Ytnlajjeppdchiaa.E
open Go
set_option linter.unusedVariables false
set_option linter.unusedSimpArgs false
set_option maxRecDepth 100000
theorem chk_bad {t : Tb} (h : chkT t = true) : badT t.2.2 = false := by
  unfold chkT at h
  cases h1 : decide (t.1 < 1) <;> rw [h1] at h <;> simp only [cond_true, cond_false, Bool.false_eq_true] at h
  cases h2 : decide (t.1 > 1000000000000) <;> rw [h2] at h <;> simp only [cond_true, cond_false, Bool.false_eq_true] at h
  cases h3 : decide (t.2.1 < 0) <;> rw [h3] at h <;> simp only [cond_true, cond_false, Bool.false_eq_true] at h
  cases h4 : decide (t.2.1 > 6) <;> rw [h4] at h <;> simp only [cond_true, cond_false, Bool.false_eq_true] at h
  cases h5 : decide (t.2.2.length < 1) <;> rw [h5] at h <;> simp only [cond_true, cond_false, Bool.false_eq_true] at h
  cases h6 : decide (t.2.2.length > 256) <;> rw [h6] at h <;> simp only [cond_true, cond_false, Bool.false_eq_true] at h
  cases h7 : (t.2.2.getD 0 pz).1 != 0 <;> rw [h7] at h <;> simp only [cond_true, cond_false, Bool.false_eq_true] at h
  cases e : badT t.2.2 <;> rw [e] at h <;> simp_all
theorem chk_zero {t : Tb} (h : chkT t = true) : chkT (t.1, t.2.1, [pz]) = true := by
  unfold chkT at h ⊢
  cases h1 : decide (t.1 < 1) <;> rw [h1] at h <;> simp only [cond_true, cond_false, Bool.false_eq_true] at h
  cases h2 : decide (t.1 > 1000000000000) <;> rw [h2] at h <;> simp only [cond_true, cond_false, Bool.false_eq_true] at h
  cases h3 : decide (t.2.1 < 0) <;> rw [h3] at h <;> simp only [cond_true, cond_false, Bool.false_eq_true] at h
  cases h4 : decide (t.2.1 > 6) <;> rw [h4] at h <;> simp only [cond_true, cond_false, Bool.false_eq_true] at h
  rfl
theorem chk_ne {t : Tb} (h : chkT t = true) {j : Nat} (hj : j + 1 < t.2.2.length) : eqP (t.2.2.getD j pz) (t.2.2.getD (j + 1) pz) = false := by
  have h8 := chk_bad h
  unfold badT at h8
  rw [List.any_eq_false] at h8
  have := h8 j (by simp; omega)
  unfold badP at this
  cases e : eqP (t.2.2.getD j pz) (t.2.2.getD (j + 1) pz) with
  | false => rfl
  | true => rw [e] at this; simp at this
theorem badW_iff {ts : List Tb} : badW ts = false ↔ ∀ t ∈ ts, chkT t = true ∧ t.1 = (ts.getD 0 tz).1 ∧ t.2.1 = (ts.getD 0 tz).2.1 := by
  unfold badW
  rw [List.any_eq_false]
  constructor
  · intro h t ht
    obtain ⟨j, hj, rfl⟩ := List.getElem_of_mem ht
    have := h j (by simp; omega)
    unfold badJ at this
    rw [Hp.getD_get hj] at this
    simpa [and_assoc] using this
  · intro h j hj
    have hj : j < ts.length := by simpa using hj
    have := h _ (List.getElem_mem hj)
    unfold badJ
    rw [Hp.getD_get hj]
    simpa [and_assoc] using this
theorem first_mem {ts : List Tb} (h : ts.length ≠ 0) : ts.getD 0 tz ∈ ts := by
  rw [Hp.getD_get (by omega)]
  exact List.getElem_mem _
theorem weave_congr {ts ts' : List Tb} (h : ∀ q, lineAt ts q = lineAt ts' q) : ∀ (D : List Int) (out : List Pc), weave ts D out = weave ts' D out
  | [], out => rfl
  | q :: D, out => by
    unfold weave
    rw [h q]
    cases lineAt ts' q with
    | none => rfl
    | some L => simp only [weave_congr h D]
theorem wvAns_eq {ts ts' : List Tb} {C C' : List Int} (h0 : ts.length ≠ 0) (h0' : ts'.length ≠ 0) (hb : badW ts = badW ts') (h : badW ts = false → (ts.getD 0 tz).1 = (ts'.getD 0 tz).1 ∧ (ts.getD 0 tz).2.1 = (ts'.getD 0 tz).2.1 ∧ weave ts C [] = weave ts' C' []) : wvAns ts C = wvAns ts' C' := by
  unfold wvAns
  rw [bif_f (decide_eq_false h0), bif_f (decide_eq_false h0'), ← hb]
  cases e : badW ts with
  | true => rfl
  | false =>
    obtain ⟨a, b, c⟩ := h e
    rw [a, b, c]
theorem bad_perm1 {ts ts' : List Tb} (p : ts.Perm ts') (h0 : ts.length ≠ 0) (h : badW ts = false) : badW ts' = false ∧ (ts.getD 0 tz).1 = (ts'.getD 0 tz).1 ∧ (ts.getD 0 tz).2.1 = (ts'.getD 0 tz).2.1 := by
  rw [badW_iff] at h ⊢
  have hm := p.mem_iff.2 (first_mem (ts := ts') (by rw [← p.length_eq]; exact h0))
  obtain ⟨_, a, b⟩ := h _ hm
  refine ⟨fun t ht => ?_, a.symm, b.symm⟩
  obtain ⟨c, d, e⟩ := h t (p.mem_iff.2 ht)
  exact ⟨c, d.trans a.symm, e.trans b.symm⟩
theorem line_perm {ts ts' : List Tb} (p : ts.Perm ts') (q : Int) : lineAt ts q = lineAt ts' q := by
  unfold lineAt lineOf colA colB colC lines
  have p1 := p.map (ln q)
  rw [wsum_perm (p1.map (·.1)), wsum_perm (p1.map (·.2.1)), wsum_perm (p1.map (·.2.2))]
theorem cut_perm {ts ts' : List Tb} (p : ts.Perm ts') {C : List Int} (h : Cut (froms ts) C) : Cut (froms ts') C :=
  ⟨h.s, fun x => (h.m x).trans (by
    unfold froms
    simp only [List.mem_flatMap, p.mem_iff])⟩
theorem ans_perm {ts ts' : List Tb} (p : ts.Perm ts') (h0 : ts.length ≠ 0) (C : List Int) : wvAns ts' C = wvAns ts C := by
  have h0' : ts'.length ≠ 0 := by rw [← p.length_eq]; exact h0
  refine (wvAns_eq h0 h0' ?_ fun h => ?_).symm
  · cases h : badW ts with
    | false => exact (bad_perm1 p h0 h).1.symm
    | true =>
      cases h' : badW ts' with
      | true => rfl
      | false => rw [(bad_perm1 p.symm h0' h').1] at h; cases h
  · obtain ⟨_, a, b⟩ := bad_perm1 p h0 h
    exact ⟨a, b, weave_congr (line_perm p) C []⟩
/-! ### a table of noughts ahead -/
def zeroed (ts : List Tb) : List Tb := ((ts.getD 0 tz).1, (ts.getD 0 tz).2.1, [pz]) :: ts
theorem line_zero (ts : List Tb) (q : Int) : lineAt (zeroed ts) q = lineAt ts q := by
  have hz : ln q ((ts.getD 0 tz).1, (ts.getD 0 tz).2.1, [pz]) = ((0, 0), (0, 0), 0, 0) := rfl
  unfold lineAt lineOf colA colB colC lines zeroed
  simp only [List.map_cons, hz, wsum]
  rw [show wv 0 0 = 0 from rfl, Int.zero_add, Int.zero_add, Int.zero_add]
theorem bad_zero {ts : List Tb} (h0 : ts.length ≠ 0) : badW ts = badW (zeroed ts) := by
  have key : badW ts = false ↔ badW (zeroed ts) = false := by
    rw [badW_iff, badW_iff]
    constructor
    · intro h t ht
      rcases List.mem_cons.1 ht with rfl | ht
      · exact ⟨chk_zero (h _ (first_mem h0)).1, rfl, rfl⟩
      · exact h t ht
    · intro h t ht
      exact h t (List.mem_cons_of_mem _ ht)
  cases h : badW ts <;> cases h' : badW (zeroed ts) <;> simp_all
theorem cut_zero {ts : List Tb} (h0 : ts.length ≠ 0) (hb : badW ts = false) {C C' : List Int} (h : Cut (froms ts) C) (h' : Cut (froms (zeroed ts)) C') : C' = C := by
  refine cut_unique _ _ h'.s h.s fun x => ?_
  rw [h.m, h'.m]
  unfold zeroed froms
  rw [List.flatMap_cons, List.mem_append]
  constructor
  · rintro (hx | hx)
    · have : x = 0 := by simpa [fr1, pz] using hx
      subst this
      have hf := bad_fit hb _ (first_mem h0)
      have := mem_froms.2 ⟨0, by omega, 0, (by have := hf.n; unfold pcs; omega), hf.z⟩
      exact this
    · exact hx
  · exact .inr
/-! ### one table -/
theorem one_line {t : Tb} (hf : Fit t) (hb : TB [t]) {k : Nat} (hk : k < t.2.2.length) : lineAt [t] t.2.2[k].1 = some t.2.2[k].2 := by
  have hi : fidx t.2.2 t.2.2[k].1 = k := by
    refine idx_eq hk (fun j hj => ?_) fun hh => ?_
    · rw [← Hp.getD_get (z := pz) hk]
      by_cases e : j + 1 = k
      · rw [e]; exact Int.le_refl _
      · have := hf.lt (show j + 1 < k by omega) hk
        omega
    · rw [← Hp.getD_get (z := pz) hk]
      exact hf.lt (Nat.lt_succ_self k) hh
  obtain ⟨w1, w2, w3⟩ := hb t (by simp) _ (List.getElem_mem hk)
  unfold lineAt lineOf colA colB colC lines ln
  simp only [List.map_cons, List.map_nil]
  rw [hi, Hp.getD_get hk]
  simp only [wsum, Int.add_zero]
  rw [wans_wv w1, wans_wv w2, wans_wv w3]
  rfl
theorem fr1_get {t : Tb} {k : Nat} (hk : k < t.2.2.length) : (fr1 t).drop k = t.2.2[k].1 :: (fr1 t).drop (k + 1) := by
  rw [List.drop_eq_getElem_cons (show k < (fr1 t).length by simpa [fr1] using hk)]
  simp [fr1]
theorem one_weave {t : Tb} (hc : chkT t = true) (hb : TB [t]) : ∀ (m k : Nat), k + m = t.2.2.length → weave [t] ((fr1 t).drop k) (t.2.2.take k) = .inl t.2.2
  | 0, k, h => by
    rw [List.drop_eq_nil_of_le (by simp [fr1]; omega), List.take_of_length_le (by omega)]
    rfl
  | m + 1, k, h => by
    have hf := chk_fit hc
    have hk : k < t.2.2.length := by omega
    rw [fr1_get hk]
    unfold weave
    rw [one_line hf hb hk]
    simp only
    have hl : (t.2.2.take k).length = k := by rw [List.length_take]; omega
    rw [hl]
    have he : (decide (0 < k) && eqL ((t.2.2.take k).getD (k - 1) pz).2 t.2.2[k].2) = false := by
      by_cases k0 : 0 < k
      · rw [Hp.getD_get (show k - 1 < (t.2.2.take k).length by omega), List.getElem_take]
        have := chk_ne hc (show (k - 1) + 1 < t.2.2.length by omega)
        rw [Hp.getD_get (show k - 1 < t.2.2.length by omega), Hp.getD_get (show k - 1 + 1 < t.2.2.length by omega)] at this
        simp only [show k - 1 + 1 = k by omega] at this
        have this : eqL t.2.2[k - 1].2 t.2.2[k].2 = false := this
        rw [this, Bool.and_false]
      · rw [decide_eq_false k0, Bool.false_and]
    have hm := hf.m
    rw [he, cond_false, bif_f (decide_eq_false (by omega)), ← one_weave hc hb m (k + 1) (by omega), List.take_succ_eq_append_getElem hk]
theorem one_cut {t : Tb} (hf : Fit t) : Cut (froms [t]) (fr1 t) := by
  refine ⟨?_, fun x => by simp [froms]⟩
  rw [List.pairwise_iff_getElem]
  intro i j hi hj hij
  have hj' : j < t.2.2.length := by simpa [fr1] using hj
  have := hf.lt hij hj'
  rw [Hp.getD_get hj', Hp.getD_get (show i < t.2.2.length by omega)] at this
  simpa [fr1] using this
theorem one_bad (t : Tb) : badW [t] = !chkT t := by
  have key : badW [t] = false ↔ chkT t = true := by
    rw [badW_iff]
    simp
  cases h : badW [t] <;> cases h' : chkT t <;> simp_all
/-- A weave of one table: itself, if it is in its form. -/
theorem one_ans {t : Tb} (hb : TB [t]) {C : List Int} (hC : Cut (froms [t]) C) : wvAns [t] C = bif chkT t then (t, 0, ()) else ((0, 0, []), 1, ()) := by
  unfold wvAns
  rw [one_bad]
  cases h : chkT t with
  | false => rfl
  | true =>
    have := one_weave h hb t.2.2.length 0 (by omega)
    rw [List.drop_zero, List.take_zero] at this
    rw [cut_unique _ _ hC.s (one_cut (chk_fit h)).s (fun x => (hC.m x).trans ((one_cut (chk_fit h)).m x).symm), this]
    rfl
end Go.Proofs.Ytnlajjeppdchiaa.E
namespace Go.Proofs.Ytnlajjeppdchiaa.E
open Go
set_option linter.unusedVariables false
theorem wAdd {a0 a1 b0 b1 : Int} (ha : WB a0 a1) (hb : WB b0 b1) : N39 ((a0, a1), (b0, b1), ()) = some (wans (wv a0 a1 + wv b0 b1)) := by
  obtain ⟨⟨p1, p2⟩, p3, p4⟩ := ha
  obtain ⟨⟨q1, q2⟩, q3, q4⟩ := hb
  unfold N39 M39
  simp only []
  rw [add64_f ⟨p3, p4⟩ ⟨q3, q4⟩ (by omega)]
  simp only [Option.bind_some, wu, ws]
  rw [add64_f (by omega) (by omega) (by omega)]
  simp only [Option.bind_some]
  unfold wans wv
  simp only [bif_not, bif_iff]
  (repeat' split) <;> first | rfl | (exfalso; omega) | (congr 3 <;> omega) | (congr 2 <;> omega)
theorem wSub {a0 a1 b0 b1 : Int} (ha : WB a0 a1) (hb : WB b0 b1) : N50 ((a0, a1), (b0, b1), ()) = some (wans (wv a0 a1 - wv b0 b1)) := by
  obtain ⟨⟨p1, p2⟩, p3, p4⟩ := ha
  obtain ⟨⟨q1, q2⟩, q3, q4⟩ := hb
  unfold N50 M50
  simp only []
  rw [sub64_f ⟨p3, p4⟩ ⟨q3, q4⟩ (by omega)]
  simp only [Option.bind_some, wu, ws]
  rw [sub64_f (by omega) (by omega) (by omega)]
  simp only [Option.bind_some]
  unfold wans wv
  simp only [bif_not, bif_iff]
  (repeat' split) <;> first | rfl | (exfalso; omega) | (congr 3 <;> omega) | (congr 2 <;> omega)
theorem wNeg {a0 a1 : Int} (ha : WB a0 a1) : N49 ((a0, a1), ()) = some (wans (-wv a0 a1)) := by
  unfold N49 M49
  simp only []
  rw [wSub WB_zero ha, show wv 0 0 - wv a0 a1 = -wv a0 a1 from by unfold wv; omega]
  rfl
theorem wOf {a : Int} (h : -9223372036854775808 ≤ a ∧ a ≤ 9223372036854775807) : N18 (a, ()) = some ((a / 18446744073709551616, a % 18446744073709551616), ()) := by
  unfold N18 M18
  simp only [wu]
  rw [fdiv_pos (by omega), show a / 9223372036854775808 = a / 18446744073709551616 from by omega]
theorem wAbs {h l : Int} (b : WB h l) : N43 ((h, l), ()) = some (wabs (wv h l) / 18446744073709551616, wabs (wv h l) % 18446744073709551616, ()) := by
  obtain ⟨⟨p1, p2⟩, p3, p4⟩ := b
  unfold N43 M43 wabs
  simp only [wu, bif_p]
  by_cases h0 : h ≥ 0
  · rw [if_pos h0, if_neg (by unfold wv; omega)]
    unfold wv
    congr 2 <;> first | omega | (congr 1; omega)
  · rw [if_neg h0, if_pos (by unfold wv; omega), sub64_f (by omega) (by omega) (by omega)]
    simp only [Option.bind_some]
    rw [sub64_f (by omega) (by omega) (by omega)]
    simp only [Option.bind_some]
    unfold wv
    congr 2 <;> first | omega | (congr 1; omega)
theorem wJoin (neg : Bool) {hi lo : Int} (h1 : 0 ≤ hi ∧ hi ≤ 18446744073709551615) (h2 : 0 ≤ lo ∧ lo ≤ 18446744073709551615) :
    N46 (neg, hi, lo, ()) = some (wans (if neg = true then -(hi * 18446744073709551616 + lo) else hi * 18446744073709551616 + lo)) := by
  unfold N46 M46
  simp only []
  rw [fdiv_pos (by omega)]
  by_cases h0 : hi / 9223372036854775808 = 0
  · rw [bif_t (by simpa using h0), wsi (by omega)]
    have b : WB hi lo := by unfold WB; omega
    cases neg with
    | true =>
      rw [bif_t rfl, if_pos rfl, wNeg b]
      rfl
    | false =>
      rw [bif_f rfl, if_neg (by simp)]
      have := wans_wv b
      unfold wv at this
      rw [this]
  · rw [bif_f (by simpa using h0)]
    cases neg with
    | true =>
      rw [bif_t rfl, if_pos rfl]
      unfold wans
      by_cases e1 : hi = 9223372036854775808
      · rw [bif_t (by simpa using e1)]
        by_cases e2 : lo = 0
        · rw [bif_t (by simpa using e2), if_pos (by omega)]
          subst e1 e2
          rfl
        · rw [bif_f (by simpa using e2), if_neg (by omega)]
      · rw [bif_f (by simpa using e1), if_neg (by omega)]
    | false =>
      rw [bif_f rfl, if_neg (by simp)]
      unfold wans
      rw [if_neg (by omega)]
end Go.Proofs.Ytnlajjeppdchiaa.E
namespace Go.Proofs.Ytnlajjeppdchiaa.E
open Go
set_option linter.unusedVariables false
theorem and_low {z : Int} (h : 0 ≤ z ∧ z ≤ 18446744073709551615) : IntKind.wrap .u64 ↑(BitVec.toNat (BitVec.ofInt 64 z &&& BitVec.ofInt 64 4294967295)) = z % 4294967296 := and_low32 z h.1 (by omega)
theorem ofInt_toNat {x : Int} (h : 0 ≤ x ∧ x ≤ 18446744073709551615) : ((BitVec.ofInt 64 x).toNat : Int) = x := by
  rw [BitVec.toNat_ofInt]
  have : x % ((2 ^ 64 : Nat) : Int) = x := Int.emod_eq_of_lt h.1 (by omega)
  rw [this]
  omega
theorem or_zero_r {x : Int} (h : 0 ≤ x ∧ x ≤ 18446744073709551615) : IntKind.wrap .u64 ↑(BitVec.toNat (BitVec.ofInt 64 x ||| BitVec.ofInt 64 0)) = x := by
  rw [show BitVec.ofInt 64 0 = 0#64 from rfl, BitVec.or_zero, ofInt_toNat h, wui h]
theorem or_zero_l {x : Int} (h : 0 ≤ x ∧ x ≤ 18446744073709551615) : IntKind.wrap .u64 ↑(BitVec.toNat (BitVec.ofInt 64 0 ||| BitVec.ofInt 64 x)) = x := by
  rw [show BitVec.ofInt 64 0 = 0#64 from rfl, BitVec.zero_or, ofInt_toNat h, wui h]
theorem wMul64 {x y : Int} (hx : 0 ≤ x ∧ x ≤ 18446744073709551615) (hy : 0 ≤ y ∧ y ≤ 18446744073709551615) :
    N44 (x, y, ()) = some (x * y / 18446744073709551616, x * y % 18446744073709551616, ()) := by
  have h := mul64_arith x y hx.1 (by omega) hy.1 (by omega)
  unfold N44 M44
  simp only [fdiv_pos (show (0 : Int) ≤ 4294967296 by omega)]
  rw [and_low hx, and_low hy]
  simp only [wu]
  rw [← wu (↑(BitVec.toNat _)), and_low (by omega), h]
theorem mul_words {x y : Int} (hx : 0 ≤ x ∧ x ≤ 18446744073709551615) (hy : 0 ≤ y ∧ y ≤ 18446744073709551615) : 0 ≤ x * y ∧ x * y ≤ 340282366920938463426481119284349108225 := by
  refine ⟨Int.mul_nonneg hx.1 hy.1, ?_⟩
  have := Int.mul_le_mul hx.2 hy.2 hy.1 (by omega : (0 : Int) ≤ 18446744073709551615)
  simpa using this
theorem wabs_mul (a b : Int) : wabs (a * b) = wabs a * wabs b := by
  unfold wabs
  by_cases ha : a < 0 <;> by_cases hb : b < 0
  · have := Int.mul_pos_of_neg_of_neg ha hb
    rw [if_neg (by omega), if_pos ha, if_pos hb, Int.neg_mul_neg]
  · have : a * b ≤ 0 := Int.mul_nonpos_of_nonpos_of_nonneg (by omega) (by omega)
    rw [if_pos ha, if_neg hb, Int.neg_mul]
    split <;> omega
  · have : a * b ≤ 0 := Int.mul_nonpos_of_nonneg_of_nonpos (by omega) (by omega)
    rw [if_neg ha, if_pos hb, Int.mul_neg]
    split <;> omega
  · have := Int.mul_nonneg (show 0 ≤ a by omega) (show 0 ≤ b by omega)
    rw [if_neg (by omega), if_neg ha, if_neg hb]
/-- A number out of its sign and its magnitude. -/
theorem sign_mul {a b : Int} {p q : Bool} (hp : p = true ↔ a < 0) (hq : q = true ↔ b < 0) : (if (!(p == q)) = true then -(wabs a * wabs b) else wabs a * wabs b) = a * b := by
  unfold wabs
  cases p <;> cases q <;> simp at hp hq
  · rw [if_neg (show ¬ a < 0 by omega), if_neg (show ¬ b < 0 by omega)]; simp
  · rw [if_neg (show ¬ a < 0 by omega), if_pos (show b < 0 by omega)]; simp <;> grind
  · rw [if_pos (show a < 0 by omega), if_neg (show ¬ b < 0 by omega)]; simp <;> grind
  · rw [if_pos (show a < 0 by omega), if_pos (show b < 0 by omega)]; simp <;> grind
/-- Where the magnitude is past every number, there is none. -/
theorem wans_past {v : Int} (h : 340282366920938463463374607431768211456 ≤ wabs v) : wans v = ((0, 0), 10, ()) := by
  refine wans_out ?_
  unfold wabs at h
  split at h <;> omega
/-- What is left of the product once its upper parts are settled. -/
theorem mul_rest {A1 A0 B1 B0 c : Int} (hA1 : 0 ≤ A1 ∧ A1 ≤ 9223372036854775808) (hA0 : 0 ≤ A0 ∧ A0 ≤ 18446744073709551615) (hB1 : 0 ≤ B1 ∧ B1 ≤ 9223372036854775808) (hB0 : 0 ≤ B0 ∧ B0 ≤ 18446744073709551615) (h0 : A1 = 0 ∨ B1 = 0)
    (hc : c = A1 * B0 + B1 * A0) : (A1 * 18446744073709551616 + A0) * (B1 * 18446744073709551616 + B0) = c * 18446744073709551616 + A0 * B0 := by
  subst hc
  rcases h0 with rfl | rfl
  · grind
  · grind
theorem wMul {a0 a1 b0 b1 : Int} (ha : WB a0 a1) (hb : WB b0 b1) : N37 ((a0, a1), (b0, b1), ()) = some (wans (wv a0 a1 * wv b0 b1)) := by
  have hs := sign_mul (a := wv a0 a1) (b := wv b0 b1) (p := decide (a0 < 0)) (q := decide (b0 < 0)) (by unfold WB at ha; unfold wv; simp; omega) (by unfold WB at hb; unfold wv; simp; omega)
  have hm := wabs_mul (wv a0 a1) (wv b0 b1)
  have hA := wabs_in ha
  have hB := wabs_in hb
  have eA := Int.emod_add_mul_ediv (wabs (wv a0 a1)) 18446744073709551616
  have eB := Int.emod_add_mul_ediv (wabs (wv b0 b1)) 18446744073709551616
  unfold N37 M37
  simp only []
  rw [wAbs ha]
  simp only [Option.bind_some]
  rw [wAbs hb]
  simp only [Option.bind_some]
  have hA1 : 0 ≤ wabs (wv a0 a1) / 18446744073709551616 ∧ wabs (wv a0 a1) / 18446744073709551616 ≤ 9223372036854775808 := by omega
  have hA0 : 0 ≤ wabs (wv a0 a1) % 18446744073709551616 ∧ wabs (wv a0 a1) % 18446744073709551616 ≤ 18446744073709551615 := by omega
  have hB1 : 0 ≤ wabs (wv b0 b1) / 18446744073709551616 ∧ wabs (wv b0 b1) / 18446744073709551616 ≤ 9223372036854775808 := by omega
  have hB0 : 0 ≤ wabs (wv b0 b1) % 18446744073709551616 ∧ wabs (wv b0 b1) % 18446744073709551616 ≤ 18446744073709551615 := by omega
  generalize wabs (wv a0 a1) / 18446744073709551616 = A1 at *
  generalize wabs (wv a0 a1) % 18446744073709551616 = A0 at *
  generalize wabs (wv b0 b1) / 18446744073709551616 = B1 at *
  generalize wabs (wv b0 b1) % 18446744073709551616 = B0 at *
  rw [← eA, ← eB] at hm hs
  generalize wv a0 a1 * wv b0 b1 = v at *
  -- the rest, behind the test
  have rest : (A1 = 0 ∨ B1 = 0) → ((N44 (A0, B0, ())).bind fun ⟨y3_0, ⟨y3_1, ()⟩⟩ => ((N45 (A1 != 0, B0, A0, ())).bind fun ⟨y4, ()⟩ => (let v0 : Int := ↑(BitVec.toNat (BitVec.ofInt 64 A1 ||| BitVec.ofInt 64 B1)); let v1 : Int := IntKind.wrap IntKind.u64 v0; (N44 (v1, y4, ())).bind fun ⟨y5_0, ⟨y5_1, ()⟩⟩ => (Option.bind (α := Int × Int × Unit) ((cAdd64 (τ := τ)).f (y3_0, y5_1, 0, ())) fun ⟨y6_0, ⟨y6_1, ()⟩⟩ => (bif y5_0 != 0 then (some ((0, 0), (10, ()))) else (bif y6_1 != 0 then (some ((0, 0), (10, ()))) else ((N46 (!decide (a0 < 0) == decide (b0 < 0), y6_0, y3_1, ())).bind fun ⟨⟨y9_0, y9_1⟩, ⟨y9_2, ()⟩⟩ => (some ((y9_0, y9_1), (y9_2, ())))))))))) = some (wans v) := by
    intro h0
    have hp := mul_words hA0 hB0
    rw [wMul64 hA0 hB0]
    simp only [Option.bind_some]
    obtain ⟨p, c, hpk, hw, hc, hpw⟩ : ∃ p c, N45 (A1 != 0, B0, A0, ()) = some (p, ()) ∧ IntKind.wrap .u64 ↑(BitVec.toNat (BitVec.ofInt 64 A1 ||| BitVec.ofInt 64 B1)) = c ∧ c * p = A1 * B0 + B1 * A0 ∧ (0 ≤ c ∧ c ≤ 18446744073709551615) ∧ (0 ≤ p ∧ p ≤ 18446744073709551615) := by
      rcases h0 with rfl | rfl
      · exact ⟨A0, B1, rfl, or_zero_l (by omega), by grind, by omega, by omega⟩
      · by_cases h : A1 = 0
        · subst h
          exact ⟨A0, 0, rfl, or_zero_l (by omega), by grind, by omega, by omega⟩
        · refine ⟨B0, A1, ?_, or_zero_r (by omega), by grind, by omega, by omega⟩
          have : (A1 != 0) = true := by simpa using h
          rw [this]
          rfl
    rw [hpk]
    simp only [Option.bind_some, hw]
    rw [wMul64 hpw.1 hpw.2]
    simp only [Option.bind_some]
    have hr := mul_rest hA1 hA0 hB1 hB0 h0 rfl
    rw [show A1 * 18446744073709551616 + A0 = A0 + 18446744073709551616 * A1 from by omega, show B1 * 18446744073709551616 + B0 = B0 + 18446744073709551616 * B1 from by omega] at hr
    rw [← hc] at hr
    rw [hr] at hm hs
    have hcp := mul_words hpw.1 hpw.2
    generalize c * p = C at *
    generalize A0 * B0 = D at *
    rw [add64_f (by omega) (by omega) (by omega)]
    simp only [Option.bind_some, bif_ne]
    by_cases h1 : C / 18446744073709551616 = 0
    · rw [if_pos h1]
      by_cases h2 : (D / 18446744073709551616 + C % 18446744073709551616 + 0) / 18446744073709551616 = 0
      · rw [if_pos h2, wJoin _ (by omega) (by omega)]
        rw [show (D / 18446744073709551616 + C % 18446744073709551616 + 0) % 18446744073709551616 * 18446744073709551616 + D % 18446744073709551616 = C * 18446744073709551616 + D from by omega, hs]
        rfl
      · rw [if_neg h2, wans_past (by omega)]
    · rw [if_neg h1, wans_past (by omega)]
  by_cases h1 : A1 = 0
  · rw [bif_ne, if_pos h1]
    exact rest (.inl h1)
  · rw [bif_ne, if_neg h1]
    by_cases h2 : B1 = 0
    · rw [bif_ne, if_pos h2]
      exact rest (.inr h2)
    · rw [bif_ne, if_neg h2]
      have h3 : 340282366920938463463374607431768211456 ≤ (A0 + 18446744073709551616 * A1) * (B0 + 18446744073709551616 * B1) := by
        have := Int.mul_le_mul (show 18446744073709551616 ≤ A0 + 18446744073709551616 * A1 by omega) (show 18446744073709551616 ≤ B0 + 18446744073709551616 * B1 by omega) (by omega) (by omega)
        omega
      rw [wans_past (by omega)]
end Go.Proofs.Ytnlajjeppdchiaa.E
namespace Go.Proofs.Ytnlajjeppdchiaa.E
open Go
set_option linter.unusedVariables false
set_option maxRecDepth 100000
def blk (q s : Int) : Int := q / s + (if q % s = 0 then 0 else 1)
def fitB (s q : Int) : Bool := decide (1 ≤ s) && decide (s ≤ 1000000000000) && decide (0 ≤ q) && decide (q ≤ 1099511627776)
theorem fitB_iff {s q : Int} : fitB s q = true ↔ 1 ≤ s ∧ s ≤ 1000000000000 ∧ 0 ≤ q ∧ q ≤ 1099511627776 := by
  unfold fitB
  simp only [Bool.and_eq_true, decide_eq_true_eq]
  omega
def LB (l : (Int × Int) × (Int × Int) × (Int × Int)) : Prop := WB l.1.1 l.1.2 ∧ WB l.2.1.1 l.2.1.2 ∧ WB l.2.2.1 l.2.2.2
def over : (Int × Int) × Int × Unit := ((0, 0), 10, ())
def valans (A B C s q : Int) : (Int × Int) × Int × Unit :=
  if fitB s q = true then (if inR (B * q) then (if inR (C * blk q s) then (if inR (A + B * q) then wans (A + B * q + C * blk q s) else over) else over) else over) else ((0, 0), 1, ())
theorem blk_in {s q : Int} (h : fitB s q = true) : 0 ≤ blk q s ∧ blk q s ≤ 1099511627777 := by
  obtain ⟨h1, h2, h3, h4⟩ := fitB_iff.1 h
  have a := Int.ediv_nonneg h3 (show 0 ≤ s by omega)
  have b : q / s ≤ q := Int.ediv_le_self _ h3
  unfold blk
  split <;> omega
theorem lfit {s q : Int} : N36 (s, q, ()) = some (fitB s q, ()) := by
  unfold N36 M36 fitB
  simp only [bif_p]
  by_cases h1 : 1 ≤ s <;> by_cases h2 : s ≤ 1000000000000 <;> by_cases h3 : 0 ≤ q <;> simp [h1, h2, h3, GE.ge]
theorem lblocks {s q : Int} (h : fitB s q = true) : N38 (q, s, ()) = some (blk q s, ()) := by
  obtain ⟨h1, h2, h3, h4⟩ := fitB_iff.1 h
  have hb := blk_in h
  have a := Int.ediv_nonneg h3 (show 0 ≤ s by omega)
  have b : q / s ≤ q := Int.ediv_le_self _ h3
  have r0 := Int.emod_nonneg q (show s ≠ 0 by omega)
  unfold N38 M38
  simp only []
  rw [bif_t (show (!s == 0) = true from by simp; omega)]
  simp only [Option.bind_some]
  rw [tdiv_pos h3, tmod_pos h3, wsi (n := q / s) (by omega)]
  unfold blk at *
  rw [show (if 1 < q % s then (1 : Int) else q % s) = if q % s = 0 then 0 else 1 from by (repeat' split) <;> omega, wsi (by omega)]
theorem wvi {a : Int} : wv (a / 18446744073709551616) (a % 18446744073709551616) = a := wv_of a
theorem lValue {l : (Int × Int) × (Int × Int) × (Int × Int)} (hl : LB l) (s q : Int) : N29 (l, s, q, ()) = some (valans (wv l.1.1 l.1.2) (wv l.2.1.1 l.2.1.2) (wv l.2.2.1 l.2.2.2) s q) := by
  obtain ⟨⟨a0, a1⟩, ⟨b0, b1⟩, ⟨c0, c1⟩⟩ := l
  obtain ⟨ha, hb, hc⟩ := hl
  simp only at ha hb hc ⊢
  unfold N29 M29 valans
  simp only []
  rw [lfit]
  simp only [Option.bind_some, bif_not]
  cases hf : fitB s q with
  | false => rfl
  | true =>
    simp only [cond_true, if_true]
    obtain ⟨h1, h2, h3, h4⟩ := fitB_iff.1 hf
    have hbk := blk_in hf
    rw [wOf (a := q) (by omega)]
    simp only [Option.bind_some]
    rw [wMul hb (WB_of (by omega)), wvi]
    by_cases i1 : inR (wv b0 b1 * q)
    · rw [if_pos i1, wans_in i1]
      simp only [Option.bind_some, bne_self_eq_false, cond_false]
      rw [lblocks hf]
      simp only [Option.bind_some]
      rw [wOf (a := blk q s) (by omega)]
      simp only [Option.bind_some]
      rw [wMul hc (WB_of (by omega)), wvi]
      by_cases i2 : inR (wv c0 c1 * blk q s)
      · rw [if_pos i2, wans_in i2]
        simp only [Option.bind_some, bne_self_eq_false, cond_false]
        rw [wAdd ha (WB_in i1), wvi]
        by_cases i3 : inR (wv a0 a1 + wv b0 b1 * q)
        · rw [if_pos i3, wans_in i3]
          simp only [Option.bind_some, bne_self_eq_false, cond_false]
          rw [wAdd (WB_in i3) (WB_in i2), wvi, wvi]
          rfl
        · rw [if_neg i3, wans_out i3]
          rfl
      · rw [if_neg i2, wans_out i2]
        rfl
    · rw [if_neg i1, wans_out i1]
      rfl
def spanans (A B C s : Int) : (Int × Int) × Int × Unit :=
  if fitB s 0 = true then (if inR (wabs A) then (if inR (wabs B) then (if inR (wabs C) then valans (wabs A) (wabs B) (wabs C) s 1099511627776 else over) else over) else over) else ((0, 0), 1, ())
end Go.Proofs.Ytnlajjeppdchiaa.E
namespace Go.Proofs.Ytnlajjeppdchiaa.E
open Go
set_option linter.unusedVariables false
set_option linter.unusedSimpArgs false
set_option maxRecDepth 100000
/-- Where the search ends. -/
structure Bs (ps : List Pc) (q : Int) (lo hi : Nat) : Prop where
  h : hi ≤ ps.length
  l : lo ≤ hi
  a : ∀ j, j < lo → (ps.getD j pz).1 < q
  b : ∀ j, hi ≤ j → j < ps.length → q ≤ (ps.getD j pz).1
theorem cmp_at {p : Pc} {q : Int} (hp : 0 ≤ p.1 ∧ p.1 ≤ 1099511627776) (hq : 0 ≤ q ∧ q ≤ 1099511627776) : ∃ c, N28 (p, q, ()) = some (c, ()) ∧ (c < 0 ↔ p.1 < q) ∧ (c = 0 ↔ p.1 = q) := by
  obtain ⟨p0, ⟨p1, p2⟩, ⟨p3, p4⟩, p5, p6⟩ := p
  simp only at hp
  refine ⟨_, rfl, ?_, ?_⟩ <;>
  · simp only
    rw [wsi (by omega)]
    (repeat' split) <;> omega
theorem fit_top {t : Tb} (h : Fit t) {j : Nat} (hj : j < t.2.2.length) : (t.2.2.getD j pz).1 ≤ 1099511627776 := by
  by_cases e : j = 0
  · rw [e, h.z]; omega
  · have := h.s (j - 1) (by omega)
    rw [show j - 1 + 1 = j by omega] at this
    omega
theorem bs_step {t : Tb} (hf : Fit t) {q : Int} (hq : 0 ≤ q ∧ q ≤ 1099511627776) {lo hi : Nat} (h : Bs t.2.2 q lo hi) :
    (lo < hi ∧ ∃ lo' hi' : Nat, R27_0 (t.2.2, q, (), (t.2.2.length : Int), (lo : Int), (hi : Int), ()) = some (.inl (t.2.2, q, (), (t.2.2.length : Int), (lo' : Int), (hi' : Int), ())) ∧ Bs t.2.2 q lo' hi' ∧ hi' - lo' < hi - lo) ∨
    (lo = hi ∧ R27_0 (t.2.2, q, (), (t.2.2.length : Int), (lo : Int), (hi : Int), ()) = some (.inr (t.2.2, q, (), (t.2.2.length : Int), (lo : Int), ()))) := by
  have hm := hf.m
  obtain ⟨h1, h2, h3, h4⟩ := h
  by_cases hlt : lo < hi
  · left
    refine ⟨hlt, ?_⟩
    have hj : (lo + hi) / 2 < t.2.2.length := by omega
    have hg := at_get hj
    obtain ⟨c, ec, c1, c2⟩ := cmp_at (p := t.2.2[(lo + hi) / 2]) (q := q) (by
      rw [← Hp.getD_get (z := pz) hj]
      exact ⟨fit_nonneg hf hj, fit_top hf hj⟩) hq
    rw [← Hp.getD_get (z := pz) hj] at c1
    by_cases hc : c < 0
    · refine ⟨(lo + hi) / 2 + 1, hi, ?_, ⟨h1, by omega, fun j hjl => ?_, h4⟩, by omega⟩
      · unfold R27_0 Q27_0
        simp only []
        rw [bif_t (decide_eq_true (by omega)), wsi (n := (lo : Int) + (hi : Int)) (by omega), wui (by omega), fdiv_pos (by omega), wsi (n := ((lo : Int) + (hi : Int)) / 2) (by omega), show ((lo : Int) + (hi : Int)) / 2 = (((lo + hi) / 2 : Nat) : Int) by omega, hg]
        generalize t.2.2[(lo + hi) / 2] = p at *
        obtain ⟨p0, ⟨p1, p2⟩, ⟨p3, p4⟩, p5, p6⟩ := p
        simp only [Option.bind_some] at *
        rw [ec]
        simp only [Option.bind_some]
        rw [bif_t (decide_eq_true hc), wsi (by omega)]
        rfl
      · by_cases e : j = (lo + hi) / 2
        · rw [e]; exact c1.1 hc
        · have := hf.lt (show j < (lo + hi) / 2 by omega) hj
          have := c1.1 hc
          omega
    · refine ⟨lo, (lo + hi) / 2, ?_, ⟨by omega, by omega, h3, fun j hjl hjn => ?_⟩, by omega⟩
      · unfold R27_0 Q27_0
        simp only []
        rw [bif_t (decide_eq_true (by omega)), wsi (n := (lo : Int) + (hi : Int)) (by omega), wui (by omega), fdiv_pos (by omega), wsi (n := ((lo : Int) + (hi : Int)) / 2) (by omega), show ((lo : Int) + (hi : Int)) / 2 = (((lo + hi) / 2 : Nat) : Int) by omega, hg]
        generalize t.2.2[(lo + hi) / 2] = p at *
        obtain ⟨p0, ⟨p1, p2⟩, ⟨p3, p4⟩, p5, p6⟩ := p
        simp only [Option.bind_some] at *
        rw [ec]
        simp only [Option.bind_some]
        rw [bif_f (decide_eq_false hc)]
      · have hge : q ≤ (t.2.2.getD ((lo + hi) / 2) pz).1 := by
          have := mt c1.2 hc
          omega
        by_cases e : j = (lo + hi) / 2
        · rw [e]; exact hge
        · have := hf.lt (show (lo + hi) / 2 < j by omega) hjn
          omega
  · right
    have : lo = hi := by omega
    subst this
    refine ⟨rfl, ?_⟩
    unfold R27_0 Q27_0
    simp only []
    rw [bif_f (decide_eq_false (by omega))]
theorem eSearch {t : Tb} (hf : Fit t) {q : Int} (hq : 0 ≤ q ∧ q ≤ 1099511627776) : ∃ n : Nat, Bs t.2.2 q n n ∧ N27 (t.2.2, q, (), ()) = some ((n : Int), decide (n < t.2.2.length ∧ (t.2.2.getD n pz).1 = q), ()) := by
  obtain ⟨y, e, n, hb, rfl⟩ := itrs_inv (ro := R27_0) (fun x => ∃ lo hi : Nat, x = (t.2.2, q, (), (t.2.2.length : Int), (lo : Int), (hi : Int), ()) ∧ Bs t.2.2 q lo hi) (fun x => (x.2.2.2.2.2.1 - x.2.2.2.2.1).toNat) (fun y => ∃ n : Nat, Bs t.2.2 q n n ∧ y = (t.2.2, q, (), (t.2.2.length : Int), (n : Int), ())) (by
    rintro x ⟨lo, hi, rfl, hx⟩
    rcases bs_step hf hq hx with ⟨hl, lo', hi', e, hb, hm⟩ | ⟨rfl, e⟩
    · refine .inl ⟨_, e, ⟨lo', hi', rfl, hb⟩, ?_⟩
      have := hb.l
      simp only
      omega
    · exact .inr ⟨_, e, lo, hx, rfl⟩) (x := (t.2.2, q, (), (t.2.2.length : Int), 0, (t.2.2.length : Int), ())) ⟨0, t.2.2.length, rfl, Nat.le_refl _, Nat.zero_le _, fun j hj => by omega, fun j h1 h2 => by omega⟩ (by
    have := hf.m
    simp only
    omega)
  refine ⟨n, hb, ?_⟩
  have hm := hf.m
  have hn := hb.h
  unfold N27 M27
  simp only []
  rw [e]
  simp only [Option.bind_some]
  by_cases hl : n < t.2.2.length
  · obtain ⟨c, ec, c1, c2⟩ := cmp_at (p := t.2.2[n]) (q := q) (by
      rw [← Hp.getD_get (z := pz) hl]
      exact ⟨fit_nonneg hf hl, fit_top hf hl⟩) hq
    rw [bif_t (decide_eq_true (by omega)), at_get hl, Hp.getD_get hl]
    generalize t.2.2[n] = p at *
    obtain ⟨p0, ⟨p1, p2⟩, ⟨p3, p4⟩, p5, p6⟩ := p
    simp only [Option.bind_some] at *
    rw [ec]
    simp only [Option.bind_some]
    congr 3
    by_cases h0 : c = 0
    · rw [decide_eq_true ⟨hl, c2.1 h0⟩]
      simpa using h0
    · rw [decide_eq_false (fun h => h0 (c2.2 h.2))]
      simpa using h0
  · rw [bif_f (decide_eq_false (by omega)), decide_eq_false (fun h => hl h.1)]
def atAns (t : Tb) (q : Int) : (Int × Int) × Int × Unit :=
  if chkT t = true ∧ 0 ≤ q ∧ q ≤ 1099511627776 then valans (wv (ln q t).1.1 (ln q t).1.2) (wv (ln q t).2.1.1 (ln q t).2.1.2) (wv (ln q t).2.2.1 (ln q t).2.2.2) t.1 q else ((0, 0), 1, ())
theorem eAt {t : Tb} (hl : t.2.2.length ≤ 140737488355328) (hb : ∀ p ∈ t.2.2, PB p) (q : Int) : N15 (t, q, ()) = some (atAns t q) := by
  have hc := eCheck t hl
  unfold N15 M15 atAns
  cases h0 : chkT t with
  | false =>
    rw [h0] at hc
    obtain ⟨t0, t1, ps⟩ := t
    simp only []
    rw [hc]
    rfl
  | true =>
    rw [h0] at hc
    have hf := chk_fit h0
    by_cases h1 : q < 0
    · rw [if_neg (by omega)]
      obtain ⟨t0, t1, ps⟩ := t
      simp only []
      rw [hc]
      simp only [Option.bind_some, Bool.not_true, cond_false]
      rw [bif_t (decide_eq_true h1)]
    · by_cases h2 : q > 1099511627776
      · rw [if_neg (by omega)]
        obtain ⟨t0, t1, ps⟩ := t
        simp only []
        rw [hc]
        simp only [Option.bind_some, Bool.not_true, cond_false]
        rw [bif_f (decide_eq_false h1), bif_t (decide_eq_true h2)]
      · rw [if_pos ⟨rfl, by omega, by omega⟩]
        obtain ⟨n, hbs, es⟩ := eSearch hf (q := q) ⟨by omega, by omega⟩
        have hn1 := hf.n
        have hm1 := hf.m
        have hz := hf.z
        unfold ln
        have key : ∃ i : Nat, fidx t.2.2 q = i ∧ i < t.2.2.length ∧ ((n < t.2.2.length ∧ (t.2.2.getD n pz).1 = q) ∧ i = n ∨ ¬ (n < t.2.2.length ∧ (t.2.2.getD n pz).1 = q) ∧ i + 1 = n) := by
          by_cases hh : n < t.2.2.length ∧ (t.2.2.getD n pz).1 = q
          · refine ⟨n, idx_eq hh.1 (fun j hj => ?_) (fun h => ?_), hh.1, .inl ⟨hh, rfl⟩⟩
            · by_cases e : j + 1 = n
              · rw [e]; omega
              · have := hbs.a (j + 1) (by omega)
                omega
            · have := hf.lt (show n < n + 1 by omega) h
              omega
          · have n0 : n ≠ 0 := fun e => by
              subst e
              have := hbs.b 0 (Nat.le_refl _) (by omega)
              exact hh ⟨by omega, by omega⟩
            have := hbs.h
            refine ⟨n - 1, idx_eq (by omega) (fun j hj => ?_) (fun h => ?_), by omega, .inr ⟨hh, by omega⟩⟩
            · have := hbs.a (j + 1) (by omega)
              omega
            · rw [show n - 1 + 1 = n by omega] at h ⊢
              have := hbs.b n (Nat.le_refl _) h
              by_cases e : (t.2.2.getD n pz).1 = q
              · exact absurd ⟨h, e⟩ hh
              · omega
        obtain ⟨i, ei, hi, hcase⟩ := key
        rw [ei]
        have hg := at_get hi
        have hpb := hb _ (List.getElem_mem hi)
        have hv := fun s => lValue (l := t.2.2[i].2) hpb s q
        rw [Hp.getD_get hi]
        generalize (t.2.2.getD n pz).1 = from_ at *
        obtain ⟨t0, t1, ps⟩ := t
        simp only [] at *
        rw [hc]
        simp only [Option.bind_some, Bool.not_true, cond_false]
        rw [bif_f (decide_eq_false h1), bif_f (decide_eq_false h2), es]
        simp only [Option.bind_some]
        rcases hcase with ⟨hh, rfl⟩ | ⟨hh, rfl⟩
        · rw [decide_eq_true hh]
          simp only [Bool.not_true, cond_false]
          rw [hg]
          generalize ps[i] = p at *
          obtain ⟨p0, ⟨p1, p2⟩, ⟨p3, p4⟩, p5, p6⟩ := p
          simp only [Option.bind_some] at *
          rw [hv]
          rfl
        · rw [decide_eq_false hh]
          simp only [Bool.not_false, cond_true]
          have hi' : i < ps.length := hi
          rw [wsi (by omega), show ((i + 1 : Nat) : Int) - 1 = (i : Int) by omega, hg]
          generalize ps[i] = p at *
          obtain ⟨p0, ⟨p1, p2⟩, ⟨p3, p4⟩, p5, p6⟩ := p
          simp only [Option.bind_some] at *
          rw [hv]
          rfl
end Go.Proofs.Ytnlajjeppdchiaa.E
namespace Go.Proofs.Ytnlajjeppdchiaa.E
open Go
set_option linter.unusedVariables false
set_option linter.unusedSimpArgs false
set_option maxRecDepth 100000
theorem ga {l : List Pc} {x : Pc} {j : Nat} (h : j < l.length) : (l ++ [x]).getD j pz = l.getD j pz := by
  rw [Hp.getD_get (by simp; omega), Hp.getD_get h, List.getElem_append_left h]
theorem ga_last {l : List Pc} {x : Pc} : (l ++ [x]).getD l.length pz = x := by
  rw [Hp.getD_get (by simp)]
  simp
theorem eqL_iff {a b : L3} : eqL a b = true ↔ a = b := by
  obtain ⟨⟨a1, a2⟩, ⟨a3, a4⟩, a5, a6⟩ := a
  obtain ⟨⟨b1, b2⟩, ⟨b3, b4⟩, b5, b6⟩ := b
  simp [eqL, and_assoc]
theorem line_same {ts : List Tb} (hf : ∀ t ∈ ts, Fit t) {d q : Int} (h : d ≤ q) (hx : ∀ x ∈ froms ts, x ≤ d ∨ q < x) : lineAt ts q = lineAt ts d := by
  have : lines ts q = lines ts d := by
    unfold lines
    refine List.map_congr_left fun t ht => ?_
    unfold ln
    have hn := (hf t ht).n
    obtain ⟨a, b, c⟩ := idx_spec (show 0 < t.2.2.length by omega) d
    rw [idx_eq a (fun j hj => by have := b j hj; omega) (fun hh => ?_)]
    have h1 := c hh
    have h2 : (t.2.2.getD (fidx t.2.2 d + 1) pz).1 ∈ froms ts := by
      unfold froms fr1
      rw [List.mem_flatMap]
      refine ⟨t, ht, ?_⟩
      rw [Hp.getD_get hh]
      exact List.mem_map_of_mem (List.getElem_mem hh)
    rcases hx _ h2 with h | h
    · omega
    · exact h
  unfold lineAt
  rw [this]
theorem lineAt_PB {ts : List Tb} {q : Int} {L : L3} (h : lineAt ts q = some L) (d : Int) : PB (d, L) := by
  unfold lineAt lineOf at h
  generalize hx : wans (wsum (colA (lines ts q))) = x at h
  generalize hy : wans (wsum (colB (lines ts q))) = y at h
  generalize hz : wans (wsum (colC (lines ts q))) = z at h
  cases a : x.2.1 != 0 <;> rw [a] at h <;> simp only [cond_true, cond_false] at h
  · cases b : y.2.1 != 0 <;> rw [b] at h <;> simp only [cond_true, cond_false] at h
    · cases c : z.2.1 != 0 <;> rw [c] at h <;> simp only [cond_true, cond_false] at h
      · injection h with h
        subst h
        unfold PB
        simp only
        rw [← hx, ← hy, ← hz]
        exact ⟨wans_WB _, wans_WB _, wans_WB _⟩
      · cases h
    · cases h
  · cases h
/-- What has been woven, D being ahead. -/
structure Wo (ts : List Tb) (D : List Int) (out : List Pc) : Prop where
  n : out.length ≤ 256
  s : ∀ j, j + 1 < out.length → (out.getD j pz).1 < (out.getD (j + 1) pz).1 ∧ (out.getD (j + 1) pz).1 ≤ 1099511627776
  d : ∀ j, j < out.length → ∀ x ∈ D, (out.getD j pz).1 < x
  e : ∀ j, j + 1 < out.length → eqP (out.getD j pz) (out.getD (j + 1) pz) = false
  z : out.length ≠ 0 → (out.getD 0 pz).1 = 0
  h : out.length = 0 → ∃ D', D = 0 :: D'
  v : ∀ q, 0 ≤ q → (∀ x ∈ D, q < x) → lineAt ts q = some (out.getD (fidx out q) pz).2
  b : ∀ p ∈ out, PB p
structure Cov (ts : List Tb) (D : List Int) : Prop where
  s : D.Pairwise (· < ·)
  m : ∀ x ∈ D, x ∈ froms ts
  a : ∀ x ∈ froms ts, x ∈ D ∨ ∀ y ∈ D, x < y
theorem Cov.tail {ts : List Tb} {d : Int} {D : List Int} (h : Cov ts (d :: D)) : Cov ts D := by
  obtain ⟨s1, s2⟩ := List.pairwise_cons.1 h.s
  refine ⟨s2, fun x hx => h.m x (by simp [hx]), fun x hx => ?_⟩
  rcases h.a x hx with hh | hh
  · rcases List.mem_cons.1 hh with rfl | hh
    · exact .inr s1
    · exact .inl hh
  · exact .inr fun y hy => hh y (by simp [hy])
theorem Cov.same {ts : List Tb} (hf : ∀ t ∈ ts, Fit t) {d : Int} {D : List Int} (h : Cov ts (d :: D)) {q : Int} (hq : d ≤ q) (hD : ∀ x ∈ D, q < x) : lineAt ts q = lineAt ts d := by
  refine line_same hf hq fun x hx => ?_
  rcases h.a x hx with hh | hh
  · rcases List.mem_cons.1 hh with rfl | hh
    · exact .inl (Int.le_refl _)
    · exact .inr (hD x hh)
  · have := hh d (by simp)
    exact .inl (by omega)
theorem froms_top {ts : List Tb} (hf : ∀ t ∈ ts, Fit t) {x : Int} (hx : x ∈ froms ts) : 0 ≤ x ∧ x ≤ 1099511627776 := by
  obtain ⟨i, hi, j, hj, rfl⟩ := mem_froms.1 hx
  exact ⟨fit_nonneg (fit_at hf hi) hj, fit_top (fit_at hf hi) hj⟩
theorem wo_step {ts : List Tb} (hf : ∀ t ∈ ts, Fit t) {d : Int} {D : List Int} {out : List Pc} (hc : Cov ts (d :: D)) (h : Wo ts (d :: D) out) {L : L3} (hL : lineAt ts d = some L) :
    (0 < out.length → eqL (out.getD (out.length - 1) pz).2 L = true → Wo ts D out) ∧
    ((decide (0 < out.length) && eqL (out.getD (out.length - 1) pz).2 L) = false → out.length ≠ 256 → Wo ts D (out ++ [(d, L)])) := by
  obtain ⟨s1, s2⟩ := List.pairwise_cons.1 hc.s
  have hold : ∀ q, 0 ≤ q → q < d → lineAt ts q = some (out.getD (fidx out q) pz).2 := fun q h0 hq => h.v q h0 fun x hx => by
    rcases List.mem_cons.1 hx with rfl | hx
    · exact hq
    · have := s1 x hx
      omega
  have hle : ∀ j, j < out.length → (out.getD j pz).1 < d := fun j hj => h.d j hj d (by simp)
  have h0d := froms_top hf (hc.m d (by simp))
  constructor
  · intro hp he
    refine ⟨h.n, h.s, fun j hj x hx => h.d j hj x (by simp [hx]), h.e, h.z, fun h0 => by omega, fun q h0 hq => ?_, h.b⟩
    by_cases hqd : q < d
    · exact hold q h0 hqd
    · rw [hc.same hf (by omega) hq, hL, idx_eq (a := out.length - 1) (by omega) (fun j hj => by have := hle (j + 1) (by omega); omega) (fun hh => by omega)]
      rw [eqL_iff.1 he]
  · intro he h256
    have hl : (out ++ [(d, L)]).length = out.length + 1 := by simp
    refine ⟨by have := h.n; omega, fun j hj => ?_, fun j hj x hx => ?_, fun j hj => ?_, fun _ => ?_, fun h0 => by omega, fun q h0 hq => ?_, fun p hp => ?_⟩
    · by_cases e : j + 1 = out.length
      · rw [ga (by omega), e, ga_last]
        exact ⟨hle j (by omega), h0d.2⟩
      · rw [ga (by omega), ga (by omega)]
        exact h.s j (by omega)
    · by_cases e : j = out.length
      · rw [e, ga_last]
        exact s1 x hx
      · rw [ga (by omega)]
        exact h.d j (by omega) x (by simp [hx])
    · by_cases e : j + 1 = out.length
      · rw [ga (by omega), e, ga_last]
        rw [decide_eq_true (show 0 < out.length by omega), Bool.true_and, show out.length - 1 = j by omega] at he
        exact he
      · rw [ga (by omega), ga (by omega)]
        exact h.e j (by omega)
    · by_cases e : out.length = 0
      · obtain ⟨D', hD'⟩ := h.h e
        have : out = [] := List.eq_nil_of_length_eq_zero e
        subst this
        injection hD' with hd _
      · rw [ga (by omega)]
        exact h.z e
    · by_cases hqd : q < d
      · have e0 : out.length ≠ 0 := fun e => by
          obtain ⟨D', hD'⟩ := h.h e
          injection hD' with hd _
          omega
        obtain ⟨a, b, c⟩ := idx_spec (show 0 < out.length by omega) q
        rw [hold q h0 hqd, idx_eq (ps := out ++ [(d, L)]) (a := fidx out q) (by omega) (fun j hj => ?_) (fun hh => ?_), ga a]
        · rw [ga (by omega)]
          exact b j hj
        · by_cases e : fidx out q + 1 = out.length
          · rw [e, ga_last]
            exact hqd
          · rw [ga (by omega)]
            exact c (by omega)
      · rw [hc.same hf (by omega) hq, hL, idx_eq (ps := out ++ [(d, L)]) (a := out.length) (by omega) (fun j hj => ?_) (fun hh => by omega), ga_last]
        by_cases e : j + 1 = out.length
        · rw [e, ga_last]
          simp only
          omega
        · rw [ga (by omega)]
          have := hle (j + 1) (by omega)
          omega
    · rcases List.mem_append.1 hp with hp | hp
      · exact h.b p hp
      · rw [List.mem_singleton.1 hp]
        exact lineAt_PB hL d
theorem wo_all {ts : List Tb} (hf : ∀ t ∈ ts, Fit t) : ∀ (D : List Int) (out o : List Pc), Cov ts D → Wo ts D out → weave ts D out = .inl o → Wo ts [] o
  | [], out, o, hc, h, hw => by
    unfold weave at hw
    injection hw with hw
    subst hw
    exact h
  | d :: D, out, o, hc, h, hw => by
    unfold weave at hw
    cases hL : lineAt ts d with
    | none => rw [hL] at hw; cases hw
    | some L =>
      rw [hL] at hw
      simp only at hw
      obtain ⟨a, b⟩ := wo_step hf hc h hL
      cases hx : (decide (0 < out.length) && eqL (out.getD (out.length - 1) pz).2 L) with
      | true =>
        rw [hx] at hw
        rw [Bool.and_eq_true] at hx
        exact wo_all hf D out o hc.tail (a (of_decide_eq_true hx.1) hx.2) hw
      | false =>
        rw [hx] at hw
        by_cases h256 : out.length = 256
        · rw [decide_eq_true h256] at hw
          cases hw
        · rw [decide_eq_false h256] at hw
          exact wo_all hf D _ o hc.tail (b hx h256) hw
theorem wo_start {ts : List Tb} (hf : ∀ t ∈ ts, Fit t) (h0 : ts.length ≠ 0) {C : List Int} (hC : Cut (froms ts) C) : Cov ts C ∧ Wo ts C [] := by
  refine ⟨⟨hC.s, fun x hx => (hC.m x).1 hx, fun x hx => .inl ((hC.m x).2 hx)⟩, by simp, fun j hj => by simp at hj, fun j hj => by simp at hj, fun j hj => by simp at hj, fun h => by simp at h, fun _ => ?_, fun q hq hx => ?_, fun p hp => by cases hp⟩
  all_goals have z0 : (0 : Int) ∈ C := (hC.m 0).2 (by
    have hf0 := fit_at hf (show 0 < ts.length by omega)
    exact mem_froms.2 ⟨0, by omega, 0, (by have := hf0.n; unfold pcs; omega), hf0.z⟩)
  · cases C with
    | nil => cases z0
    | cons d D =>
      obtain ⟨s1, s2⟩ := List.pairwise_cons.1 hC.s
      have := froms_top hf ((hC.m d).1 (by simp))
      rcases List.mem_cons.1 z0 with h | h
      · exact ⟨D, by rw [← h]⟩
      · have := s1 0 h
        omega
  · have := hx 0 z0
    omega
theorem chk_mk {t : Tb} (h1 : 1 ≤ t.1 ∧ t.1 ≤ 1000000000000) (h2 : 0 ≤ t.2.1 ∧ t.2.1 ≤ 6) (h3 : 1 ≤ t.2.2.length ∧ t.2.2.length ≤ 256) (h4 : (t.2.2.getD 0 pz).1 = 0) (h5 : badT t.2.2 = false) : chkT t = true := by
  unfold chkT
  rw [bif_f (decide_eq_false (by omega)), bif_f (decide_eq_false (by omega)), bif_f (decide_eq_false (by omega)), bif_f (decide_eq_false (by omega)), bif_f (decide_eq_false (by omega)), bif_f (decide_eq_false (by omega)), h4, h5]
  rfl
theorem chk_sizes {t : Tb} (h : chkT t = true) : (1 ≤ t.1 ∧ t.1 ≤ 1000000000000) ∧ 0 ≤ t.2.1 ∧ t.2.1 ≤ 6 := by
  unfold chkT at h
  cases h1 : decide (t.1 < 1) <;> rw [h1] at h <;> simp only [cond_true, cond_false, Bool.false_eq_true] at h
  cases h2 : decide (t.1 > 1000000000000) <;> rw [h2] at h <;> simp only [cond_true, cond_false, Bool.false_eq_true] at h
  cases h3 : decide (t.2.1 < 0) <;> rw [h3] at h <;> simp only [cond_true, cond_false, Bool.false_eq_true] at h
  cases h4 : decide (t.2.1 > 6) <;> rw [h4] at h <;> simp only [cond_true, cond_false, Bool.false_eq_true] at h
  have := of_decide_eq_false h1
  have := of_decide_eq_false h2
  have := of_decide_eq_false h3
  have := of_decide_eq_false h4
  omega
theorem wo_chk {ts : List Tb} {o : List Pc} (h : Wo ts [] o) {s c : Int} (hs : 1 ≤ s ∧ s ≤ 1000000000000) (hc : 0 ≤ c ∧ c ≤ 6) : chkT (s, c, o) = true := by
  have n0 : o.length ≠ 0 := fun e => by
    obtain ⟨D', hD'⟩ := h.h e
    cases hD'
  refine chk_mk hs hc ⟨by simp only; omega, h.n⟩ (h.z n0) ?_
  unfold badT
  rw [List.any_eq_false]
  intro j hj
  have hj : j + 1 < o.length := by simp at hj; omega
  have h1 := h.s j hj
  have h2 := h.e j hj
  unfold badP
  simp only
  rw [h2, decide_eq_false (by omega), decide_eq_false (by omega)]
  simp
end Go.Proofs.Ytnlajjeppdchiaa.E
namespace Go.Proofs.Ytnlajjeppdchiaa.E
open Go
set_option linter.unusedVariables false
set_option linter.unusedSimpArgs false
set_option maxRecDepth 100000
theorem awake_yes4 : N7 () = some (true, ()) := by kernel_rfl
theorem wans_ok {v : Int} (h : (wans v).2.1 = 0) : wv (wans v).1.1 (wans v).1.2 = v := by
  by_cases hv : -170141183460469231731687303715884105728 ≤ v ∧ v ≤ 170141183460469231731687303715884105727
  · rw [wans_in hv]
    exact wv_of v
  · rw [wans_out hv] at h
    cases h
theorem valans_ok {A B C s q : Int} (h : (valans A B C s q).2.1 = 0) : valans A B C s q = wans (A + B * q + C * blk q s) := by
  unfold valans at h ⊢
  split at h
  · rename_i h0
    rw [if_pos h0]
    split at h
    · rename_i h1
      rw [if_pos h1]
      split at h
      · rename_i h2
        rw [if_pos h2]
        split at h
        · rename_i h3
          rw [if_pos h3]
        · cases h
      · cases h
    · cases h
  · cases h
theorem valans_WB (A B C s q : Int) : WB (valans A B C s q).1.1 (valans A B C s q).1.2 := by
  unfold valans over
  (repeat' split) <;> first | exact wans_WB _ | exact WB_zero
theorem at_WB (t : Tb) (q : Int) : WB (atAns t q).1.1 (atAns t q).1.2 := by
  unfold atAns
  split
  · exact valans_WB _ _ _ _ _
  · exact WB_zero
def okv (q : Int) (t : Tb) : Option (Int × Int) := bif (atAns t q).2.1 == 0 then some (atAns t q).1 else none
def vals (ts : List Tb) (q : Int) : List (Int × Int) := ts.filterMap (okv q)
theorem vals_WB (ts : List Tb) (q : Int) : ∀ p ∈ vals ts q, WB p.1 p.2 := fun p hp => by
  obtain ⟨t, ht, e⟩ := List.mem_filterMap.1 hp
  unfold okv at e
  cases h : (atAns t q).2.1 == 0 <;> rw [h] at e
  · cases e
  · injection e with e
    subst e
    exact at_WB t q
theorem vals_len (ts : List Tb) (q : Int) : (vals ts q).length ≤ ts.length := List.length_filterMap_le _ _
theorem vals_all {q : Int} : ∀ {ts : List Tb}, (vals ts q).length = ts.length → ∀ t ∈ ts, (atAns t q).2.1 = 0
  | [], _, t, ht => by cases ht
  | x :: r, h, t, ht => by
    have hl := vals_len r q
    unfold vals at h hl
    rw [List.filterMap_cons] at h
    cases hx : (atAns x q).2.1 == 0 with
    | false =>
      have : okv q x = none := by unfold okv; rw [hx]; rfl
      rw [this] at h
      simp only [List.length_cons] at h
      omega
    | true =>
      have : okv q x = some (atAns x q).1 := by unfold okv; rw [hx]; rfl
      rw [this] at h
      simp only [List.length_cons] at h
      rcases List.mem_cons.1 ht with rfl | ht
      · simpa using hx
      · exact vals_all (ts := r) (by unfold vals; omega) t ht
theorem at_ok {t : Tb} {q : Int} (h : (atAns t q).2.1 = 0) : atAns t q = wans (wv (ln q t).1.1 (ln q t).1.2 + wv (ln q t).2.1.1 (ln q t).2.1.2 * q + wv (ln q t).2.2.1 (ln q t).2.2.2 * blk q t.1) := by
  unfold atAns at h ⊢
  split at h
  · rename_i h0
    rw [if_pos h0]
    exact valans_ok h
  · cases h
theorem vals_sum {q s : Int} : ∀ {ts : List Tb}, (∀ t ∈ ts, t.1 = s) → (∀ t ∈ ts, (atAns t q).2.1 = 0) → wsum (vals ts q) = wsum (colA (lines ts q)) + wsum (colB (lines ts q)) * q + wsum (colC (lines ts q)) * blk q s
  | [], _, _ => by simp [vals, lines, colA, colB, colC, wsum]
  | x :: r, h1, h2 => by
    have ih := vals_sum (ts := r) (fun t h => h1 t (by simp [h])) (fun t h => h2 t (by simp [h]))
    have hx := h2 x (by simp)
    have ho : okv q x = some (atAns x q).1 := by
      unfold okv
      rw [hx]
      rfl
    have e := at_ok hx
    have hv : wv (atAns x q).1.1 (atAns x q).1.2 = wv (ln q x).1.1 (ln q x).1.2 + wv (ln q x).2.1.1 (ln q x).2.1.2 * q + wv (ln q x).2.2.1 (ln q x).2.2.2 * blk q s := by
      rw [e] at hx ⊢
      rw [h1 x (by simp)] at hx ⊢
      exact wans_ok hx
    unfold vals at ih ⊢
    rw [List.filterMap_cons, ho]
    simp only [wsum, lines, colA, colB, colC, List.map_cons, Int.add_mul] at ih ⊢
    rw [hv, ih]
    omega
theorem lineOf_vals {l : List L3} {L : L3} (h : lineOf l = some L) : wv L.1.1 L.1.2 = wsum (colA l) ∧ wv L.2.1.1 L.2.1.2 = wsum (colB l) ∧ wv L.2.2.1 L.2.2.2 = wsum (colC l) := by
  unfold lineOf at h
  have ax := wans_ok (v := wsum (colA l))
  have ay := wans_ok (v := wsum (colB l))
  have az := wans_ok (v := wsum (colC l))
  generalize wans (wsum (colA l)) = x at *
  generalize wans (wsum (colB l)) = y at *
  generalize wans (wsum (colC l)) = z at *
  cases a : x.2.1 != 0 <;> rw [a] at h <;> simp only [cond_true, cond_false] at h
  · cases b : y.2.1 != 0 <;> rw [b] at h <;> simp only [cond_true, cond_false] at h
    · cases c : z.2.1 != 0 <;> rw [c] at h <;> simp only [cond_true, cond_false] at h
      · injection h with h
        subst h
        exact ⟨ax (by simpa using a), ay (by simpa using b), az (by simpa using c)⟩
      · cases h
    · cases h
  · cases h
theorem weave_err (ts : List Tb) {e : Int} : ∀ (D : List Int) (out : List Pc), weave ts D out = .inr e → e = 10 ∨ e = 120
  | [], out, h => by unfold weave at h; cases h
  | d :: D, out, h => by
    unfold weave at h
    cases hL : lineAt ts d with
    | none => rw [hL] at h; injection h with h; exact .inl h.symm
    | some L =>
      rw [hL] at h
      simp only at h
      generalize (decide (0 < out.length) && eqL (out.getD (out.length - 1) pz).2 L) = x at h
      generalize decide (out.length = 256) = y at h
      cases x with
      | true => exact weave_err ts D out h
      | false =>
        cases y with
        | true => injection h with h; exact .inr h.symm
        | false => exact weave_err ts D _ h
theorem m_all {ts : List Tb} {s c : Int} {o : List Pc} (ho : o.length ≤ 256) : ∀ (m i : Nat) (all : List Int), i + m = o.length → all.length + 2 * m ≤ 20000000000000 →
    ∃ all', itr R6_0 (m + 1) (ts, (s, c, o, ()), all, (i : Int), ()) = some (ts, (s, c, o, ()), all', ()) ∧ all'.length = all.length + 2 * m
  | 0, i, all, hi, hl => by
    refine ⟨all, itr_out ?_, by omega⟩
    unfold R6_0 Q6_0
    simp only []
    rw [bif_f (decide_eq_false (by omega))]
  | m + 1, i, all, hi, hl => by
    have hio : i < o.length := by omega
    obtain ⟨all', e, h⟩ := m_all ho m (i + 1) (all ++ [o[i].1, IntKind.wrap .i64 (o[i].1 - 1)]) (by omega) (by simp; omega)
    refine ⟨all', ?_, by rw [h]; simp; omega⟩
    rw [← e]
    refine itr_in ?_
    unfold R6_0 Q6_0
    simp only []
    rw [bif_t (decide_eq_true (by omega)), at_get hio]
    generalize o[i] = p at *
    obtain ⟨p0, ⟨p1, p2⟩, ⟨p3, p4⟩, p5, p6⟩ := p
    simp only [Option.bind_some]
    rw [bif_t (decide_eq_true (by omega))]
    simp only [Option.bind_some]
    rw [wsi (n := (i : Int) + 1) (by omega)]
    rfl
theorem m_vals {ts : List Tb} {s c : Int} {o : List Pc} {all : List Int} (hn : ts.length ≤ 1000000) (hb : TB ts) (hps : ∀ t ∈ ts, t.2.2.length ≤ 140737488355328) {i : Nat} (hi : i < all.length) :
    itrs R6_4 (ts, (s, c, o, ()), all, (i : Int), [], 0, ()) = some (ts, (s, c, o, ()), all, (i : Int), vals ts all[i], ()) := by
  refine itrs_seq (fun k => (ts, (s, c, o, ()), all, (i : Int), vals (ts.take k) all[i], (k : Int), ())) ts.length rfl (fun k hk => ?_) ?_ (by omega)
  · have hg := at_get hk
    have ha := eAt (hps _ (List.getElem_mem hk)) (hb _ (List.getElem_mem hk)) all[i]
    have hq : all[(i : Int).toNat]? = some all[i] := by rw [Int.toNat_natCast, List.getElem?_eq_getElem hi]
    have hl := vals_len (ts.take k) all[i]
    rw [List.length_take] at hl
    have ht : vals (ts.take (k + 1)) all[i] = vals (ts.take k) all[i] ++ (okv all[i] ts[k]).toList := by
      unfold vals
      rw [List.take_succ_eq_append_getElem hk, List.filterMap_append]
      refine congrArg (_ ++ ·) ?_
      rw [List.filterMap_cons]
      cases okv all[i] ts[k] <;> rfl
    unfold R6_4 Q6_4
    simp only []
    rw [ht]
    unfold okv
    rw [bif_t (c := decide ((k : Int) < (ts.length : Int))) (decide_eq_true (by omega)), hg]
    generalize ts[k] = t at *
    obtain ⟨t0, t1, ps⟩ := t
    simp only [Option.bind_some] at *
    rw [bif_t (inb hi), hq]
    simp only [Option.bind_some]
    rw [ha]
    generalize atAns (t0, t1, ps) all[i] = z at *
    obtain ⟨⟨z0, z1⟩, z2, ⟨⟩⟩ := z
    simp only [Option.bind_some]
    rw [bif_t (c := decide (_ ≤ _)) (decide_eq_true (by omega)), wsi (by omega)]
    cases z2 == 0
    · simp only [cond_false, Option.toList_none, List.append_nil]
      rfl
    · rfl
  · unfold R6_4 Q6_4
    simp only []
    rw [bif_f (decide_eq_false (by omega)), List.take_of_length_le (by omega)]
theorem m_places {ts : List Tb} {c : Int} {o : List Pc} {all : List Int} (h0 : ts.length ≠ 0) (hn : ts.length ≤ 1000000) (hb : TB ts) (hps : ∀ t ∈ ts, t.2.2.length ≤ 140737488355328) (hw : Wo ts [] o) {s : Int} (hs : ∀ t ∈ ts, t.1 = s) (hall : all.length ≤ 20000000000000) :
    itrs R6_2 (ts, (s, c, o, ()), all, 0, ()) = some (.inl ()) := by
  refine itrs_seq (fun i => (ts, (s, c, o, ()), all, (i : Int), ())) (min all.length 600) rfl (fun i hi => ?_) ?_ (by omega)
  · have hia : i < all.length := by omega
    have hv := m_vals (s := s) (c := c) (o := o) hn hb hps hia
    have hq : all[(i : Int).toNat]? = some all[i] := by rw [Int.toNat_natCast, List.getElem?_eq_getElem hia]
    have hvl := vals_len ts all[i]
    have hsum := wSum (vals_WB ts all[i]) (by omega)
    have hat := eAt (t := (s, c, o)) (by have := hw.n; simp only; omega) hw.b all[i]
    unfold R6_2 Q6_2
    simp only []
    rw [bif_t (c := decide ((i : Int) < (all.length : Int))) (decide_eq_true (by omega)), bif_t (c := decide ((i : Int) < 600)) (decide_eq_true (by omega)), hv]
    simp only [Option.bind_some]
    rw [hsum]
    have key : (vals ts all[i]).length = ts.length → (wans (wsum (vals ts all[i]))).2.1 = 0 → (atAns (s, c, o) all[i]).2.1 = 0 → atAns (s, c, o) all[i] = wans (wsum (vals ts all[i])) := fun h1 h2 h3 => by
      have hz := vals_all h1
      have hq0 : 0 ≤ all[i] := by
        have := hz _ (first_mem h0)
        unfold atAns at this
        split at this
        · rename_i hh
          exact hh.2.1
        · cases this
      have hl := lineOf_vals (hw.v all[i] hq0 (fun x hx => by cases hx))
      rw [vals_sum hs hz, at_ok h3]
      unfold ln
      simp only
      rw [hl.1, hl.2.1, hl.2.2]
    generalize wans (wsum (vals ts all[i])) = a at *
    generalize hB : atAns (s, c, o) all[i] = b at *
    obtain ⟨⟨a0, a1⟩, a2, ⟨⟩⟩ := a
    obtain ⟨⟨b0, b1⟩, b2, ⟨⟩⟩ := b
    simp only [Option.bind_some]
    rw [bif_t (inb hia), hq]
    simp only [Option.bind_some]
    rw [hat]
    simp only [Option.bind_some]
    rw [wsi (by omega)]
    by_cases h1 : (vals ts all[i]).length = ts.length
    · rw [bif_t (c := ((vals ts all[i]).length : Int) == (ts.length : Int)) (by rw [h1]; simp)]
      by_cases h2 : a2 = 0
      · rw [bif_t (c := a2 == 0) (by simpa using h2)]
        by_cases h3 : b2 = 0
        · rw [bif_t (c := b2 == 0) (by simpa using h3)]
          have := key h1 h2 h3
          injection this with e1 _
          injection e1 with e2 e3
          rw [e2, e3]
          simp only [beq_self_eq_true, Bool.and_self, Bool.not_true, cond_false]
          rfl
        · rw [bif_f (c := b2 == 0) (by simpa using h3)]
          rfl
      · rw [bif_f (c := a2 == 0) (by simpa using h2)]
        rfl
    · rw [bif_f (c := ((vals ts all[i]).length : Int) == (ts.length : Int)) (by rw [beq_eq_false_iff_ne]; omega)]
      rfl
  · unfold R6_2 Q6_2
    simp only []
    by_cases h : all.length ≤ 600
    · rw [bif_f (c := decide (((min all.length 600 : Nat) : Int) < (all.length : Int))) (decide_eq_false (by omega))]
    · rw [bif_t (c := decide (((min all.length 600 : Nat) : Int) < (all.length : Int))) (decide_eq_true (by omega)), bif_f (decide_eq_false (by omega))]
theorem pureWeaveMeans : PWeaveMeans := by
  intro ts list ⟨hl, hw⟩ ⟨hll, _⟩
  have b1 : Program.bytesOf Try.prog 27 = 40 := by kernel_rfl
  have b2 : Program.bytesOf Try.prog 43 = 56 := by kernel_rfl
  have b3 : Program.bytesOf Try.prog 2 = 8 := by kernel_rfl
  rw [b1] at hl
  rw [b3] at hll
  have hps : ∀ t ∈ ts, t.2.2.length ≤ 140737488355328 := fun t ht => by
    have := (hw t ht).2.2.1
    rw [b2] at this
    omega
  have hb : TB ts := fun t ht p hp => ((hw t ht).2.2.2 p hp).2
  obtain ⟨n, en, hn⟩ := ePieces (ts := ts) (by omega) hps
  unfold N6 M6
  simp only []
  rw [awake_yes4]
  simp only [Option.bind_some, Bool.not_true, cond_false]
  rw [en]
  simp only [Option.bind_some]
  by_cases hbig : n > 4096
  · rw [bif_t (decide_eq_true hbig)]
  rw [bif_f (decide_eq_false hbig)]
  have ht := hn (by omega)
  have hfl := froms_tot ts
  obtain ⟨C, _, hC, lC⟩ := eCuts (ts := ts) hps (by omega) (by omega)
  rw [eWeave (by omega) hb hps hC (by omega)]
  unfold wvAns
  by_cases h0 : ts.length = 0
  · rw [bif_t (decide_eq_true h0)]
    rfl
  rw [bif_f (decide_eq_false h0)]
  cases hbad : badW ts with
  | true => rfl
  | false =>
    have hf := bad_fit hbad
    have hall := badW_iff.1 hbad
    have hz : ts[0]? = some (ts.getD 0 tz) := by rw [List.getElem?_eq_getElem (show 0 < ts.length by omega), Hp.getD_get]
    simp only [cond_false]
    cases hwv : weave ts C [] with
    | inr e =>
      rcases weave_err ts C [] hwv with rfl | rfl <;> rfl
    | inl o =>
      obtain ⟨hcov, hst⟩ := wo_start hf h0 hC
      have hwo := wo_all hf C [] o hcov hst hwv
      obtain ⟨sz1, sz2⟩ := chk_sizes (hall _ (first_mem h0)).1
      have hck := eCheck ((ts.getD 0 tz).1, (ts.getD 0 tz).2.1, o) (by have := hwo.n; simp only; omega)
      rw [wo_chk hwo sz1 sz2] at hck
      have hs : ∀ t ∈ ts, t.1 = (ts.getD 0 tz).1 := fun t h => (hall t h).2.1
      rw [hz]
      generalize ts.getD 0 tz = f at *
      obtain ⟨f0, f1, f2⟩ := f
      simp only [Option.bind_some] at *
      rw [hck]
      have hon := hwo.n
      obtain ⟨all, ea, la⟩ := m_all (ts := ts) (s := f0) (c := f1) hon o.length 0 ([0, 1099511627776] ++ list) (by omega) (by simp; omega)
      have ea := itrs_of ea (by omega)
      rw [show ((0 : Nat) : Int) = 0 from rfl] at ea
      simp only [Option.bind_some, bne_self_eq_false, cond_false, Bool.not_true]
      rw [bif_f (lenN h0), bif_t (c := decide ((2 + list.length) * 8 ≤ _)) (decide_eq_true (by omega))]
      simp only [Option.bind_some]
      rw [ea]
      simp only [Option.bind_some]
      rw [m_places h0 (by omega) hb hps hwo hs (by simp at la; omega)]
      rfl
end Go.Proofs.Ytnlajjeppdchiaa.E
namespace Go.Proofs.Ytnlajjeppdchiaa.E.Row
open Go Go.ChangeShapes Go.WideShapes Go.ChangeAt Go.RowKit Go.Proofs.Ytnlajjeppdchiaa
set_option linter.unusedVariables false
set_option maxRecDepth 100000
theorem own : ownKnob Try.prog.godebug = none := by kernel_rfl
theorem laidOut : laidOutB Try.prog = true := by kernel_rfl
theorem came39 : Came κ Try.prog 39 ((.pair (.int .i64) (.int .u64)) : K τ (Int × Int)) W39 := Came.struct Try.underlying39 (by kernel_rfl) (CameFs.cons (o1 := 1) (Q := fun x : Int => (-9223372036854775808 ≤ x ∧ x ≤ 9223372036854775807)) rfl (by kernel_rfl) rfl (Came.i64 Try.underlying2) (CameFs.one (Q := fun x : Int => (0 ≤ x ∧ x ≤ 18446744073709551615)) rfl (by kernel_rfl) (Came.u64 Try.underlying37)))
theorem came41 : Came κ Try.prog 41 ((.pair (.pair (.int .i64) (.int .u64)) (.pair (.pair (.int .i64) (.int .u64)) (.pair (.int .i64) (.int .u64)))) : K τ ((Int × Int) × ((Int × Int) × (Int × Int)))) W41 := Came.struct Try.underlying41 (by kernel_rfl) (CameFs.cons (o1 := 2) (Q := fun x : (Int × Int) => W39 x) rfl (by kernel_rfl) rfl came39 (CameFs.cons (o1 := 4) (Q := fun x : (Int × Int) => W39 x) rfl (by kernel_rfl) rfl came39 (CameFs.one (Q := fun x : (Int × Int) => W39 x) rfl (by kernel_rfl) came39)))
theorem came43 : Came κ Try.prog 43 ((.pair (.int .i64) (.pair (.pair (.int .i64) (.int .u64)) (.pair (.pair (.int .i64) (.int .u64)) (.pair (.int .i64) (.int .u64))))) : K τ (Int × ((Int × Int) × ((Int × Int) × (Int × Int))))) W43 := Came.struct Try.underlying43 (by kernel_rfl) (CameFs.cons (o1 := 1) (Q := fun x : Int => (-9223372036854775808 ≤ x ∧ x ≤ 9223372036854775807)) rfl (by kernel_rfl) rfl (Came.i64 Try.underlying2) (CameFs.one (Q := fun x : ((Int × Int) × ((Int × Int) × (Int × Int))) => W41 x) rfl (by kernel_rfl) came41))
theorem came25 : Came κ Try.prog 25 (.sl (τ := τ) 43) (fun a : (List (Int × ((Int × Int) × ((Int × Int) × (Int × Int))))) => (List.length a * Program.bytesOf Try.prog 43 ≤ 140737488351232 ∧ ∀ x ∈ a, W43 x)) := Came.slice (κ := κ) (e := 43) (Q := fun x : (Int × ((Int × Int) × ((Int × Int) × (Int × Int)))) => W43 x) Try.underlying25 (by kernel_rfl) (by kernel_rfl) rfl (show Came κ Try.prog 43 (κ 43) (fun x : (Int × ((Int × Int) × ((Int × Int) × (Int × Int)))) => W43 x) from came43)
theorem came27 : Came κ Try.prog 27 ((.pair (.int .i64) (.pair (.int .i64) (.sl (τ := τ) 43))) : K τ (Int × (Int × (List (Int × ((Int × Int) × ((Int × Int) × (Int × Int)))))))) W27 := Came.struct Try.underlying27 (by kernel_rfl) (CameFs.cons (o1 := 1) (Q := fun x : Int => (-9223372036854775808 ≤ x ∧ x ≤ 9223372036854775807)) rfl (by kernel_rfl) rfl (Came.i64 Try.underlying2) (CameFs.cons (o1 := 2) (Q := fun x : Int => (-9223372036854775808 ≤ x ∧ x ≤ 9223372036854775807)) rfl (by kernel_rfl) rfl (Came.i64 Try.underlying3) (CameFs.one (Q := fun x : (List (Int × ((Int × Int) × ((Int × Int) × (Int × Int))))) => (List.length x * Program.bytesOf Try.prog 43 ≤ 140737488351232 ∧ ∀ x' ∈ x, W43 x')) rfl (by kernel_rfl) came25)))
theorem came22 : Came κ Try.prog 22 (.sl (τ := τ) 27) (fun a : (List (Int × (Int × (List (Int × ((Int × Int) × ((Int × Int) × (Int × Int)))))))) => (List.length a * Program.bytesOf Try.prog 27 ≤ 140737488351232 ∧ ∀ x ∈ a, W27 x)) := Came.slice (κ := κ) (e := 27) (Q := fun x : (Int × (Int × (List (Int × ((Int × Int) × ((Int × Int) × (Int × Int))))))) => W27 x) Try.underlying22 (by kernel_rfl) (by kernel_rfl) rfl (show Came κ Try.prog 27 (κ 27) (fun x : (Int × (Int × (List (Int × ((Int × Int) × ((Int × Int) × (Int × Int))))))) => W27 x) from came27)
theorem came33 : Came κ Try.prog 33 (.sl (τ := τ) 2) (fun a : (List Int) => (List.length a * Program.bytesOf Try.prog 2 ≤ 140737488351232 ∧ ∀ x ∈ a, (-9223372036854775808 ≤ x ∧ x ≤ 9223372036854775807))) := Came.slice (κ := κ) (e := 2) (Q := fun x : Int => (-9223372036854775808 ≤ x ∧ x ≤ 9223372036854775807)) Try.underlying33 (by kernel_rfl) (by kernel_rfl) rfl (show Came κ Try.prog 2 (κ 2) (fun x : Int => (-9223372036854775808 ≤ x ∧ x ≤ 9223372036854775807)) from (Came.i64 Try.underlying2))
theorem lifted (os : Os) (started : os.Started) (H : Type) (enc : TypeId × Value → H) :
    ReturnsInHanded {} Try.checked os 6 .any (Rows.weaveMeansSpec.pre6 enc Try.prog Try.f6 Rows.weaveMeansRow.domain false) (Rows.weaveMeansSpec.post enc Try.prog Try.f6 false true false false) := by
  refine returnsInHanded_of_change_sized (C := Try.checked) own started (by kernel_rfl) Try.func6
    (ChangeSpec.witness6 (enc := enc) (C := Try.checked) false ⟨#[], #[(.slice none 0 0), (.slice none 0 0)], []⟩ 8 (by kernel_rfl) (by kernel_rfl) (by kernel_rfl) (by kernel_rfl)) ?_
  intro W base args ds gs before hval0 hW hcnd hsz0 _
  have hsz : (DataW.weightsEach Try.prog (Try.f6.params.toList ++ Rows.weaveMeansSpec.plain.varTypes Try.prog) (ds ++ gs)).all (· ≤ reachBytes) = true := hsz0
  have hval : ∀ (j : Nat) t v, Try.f6.params[j]? = some t → args[j]? = some v → Value.okWide Try.prog W .any base t v := hval0
  have hW' := hW
  obtain ⟨p, q, hA0, hV, rfl, hfz, hnd⟩ := hW
  have hA : DataW.TrodAll enc Try.prog W 0 (fun _ => true) true Try.f6.params.toList args.toList ds p := hA0
  rw [Try.params6] at hA hval hsz
  obtain ⟨v0, vs0, d0, ds0, p0, q0, hargs, rfl, rfl, h0, r0⟩ := trodAll_cons hA
  obtain ⟨v1, vs1, d1, ds1, p1, q1, rfl, rfl, rfl, h1, r1⟩ := trodAll_cons r0
  obtain ⟨rfl, rfl, rfl⟩ := trodAll_nil r1
  obtain rfl : args = #[v0, v1] := by cases args; simp_all
  obtain ⟨rfl, rfl⟩ := trodVars_none hV
  have hwt : ∀ (j : Nat) t d, [22, 33][j]? = some t → [d0, d1][j]? = some d → ∀ n ∈ DataW.weights Try.prog t d, n ≤ reachBytes := fun j t d h1 h2 n hn => by
    have := List.all_eq_true.1 hsz n (weights_each (j := j) (by simpa using (List.getElem?_append_left (l₂ := Rows.weaveMeansSpec.plain.varTypes Try.prog) (List.getElem?_eq_some_iff.1 h1).1).trans h1) (by simpa using h2) n hn)
    simpa using this
  have lt0 : ∀ x ∈ p0, x.block < W.heap.size := by obtain ⟨m, hm⟩ := h0; exact DataW.trod_lt m _ _ _ hm
  obtain ⟨a0, e0, y0⟩ := arg_slice Try.underlying22 came22 (hval 0 22 v0 rfl rfl) h0 (hwt 0 22 d0 rfl rfl)
  have lt1 : ∀ x ∈ p1, x.block < W.heap.size := by obtain ⟨m, hm⟩ := h1; exact DataW.trod_lt m _ _ _ hm
  obtain ⟨a1, e1, y1⟩ := arg_slice Try.underlying33 came33 (hval 1 33 v1 rfl rfl) h1 (hwt 1 33 d1 rfl rfl)
  have hp : N6 (a0, a1, ()) = some (true, ()) := pureWeaveMeans a0 a1 y0 y1
  refine (law_calls (i := i6) (n := N6) (F := Try.f6) (code := bodyOf Try.f6) s6 (by kernel_rfl) Try.func6 (by kernel_rfl) (by kernel_rfl) hp (argsK_cons e0 (argsK_cons e1 argsK_nil))).mono fun e W' ⟨he, bel⟩ => ?_
  subst he
  exact ⟨_, rfl, _, _, _, [], _, [], hW', trodAll_mk1 (shut_bool Try.underlying4 _), (trodAll_cons_mk (Below.trod laidOut (by kernel_rfl) (of_decide_eq_true (by kernel_rfl)) h0 bel lt0) (trodAll_cons_mk (Below.trod laidOut (by kernel_rfl) (of_decide_eq_true (by kernel_rfl)) h1 bel lt1) trodAll_mk0)), rfl, bel.frame _, fun h => by cases h⟩
theorem over : Rows.weaveMeansRow.holds Try.pinned (OpenSpec.ofChange Rows.weaveMeansSpec) :=
  OpenClaim.holds_of_wide 6 Try.f6 rfl rfl rfl rfl rfl rfl rfl ⟨rfl, rfl, rfl, rfl, rfl⟩ rfl rfl rfl rfl rfl (by kernel_rfl) Try.func6 (by kernel_rfl)
    (of_decide_eq_true (by kernel_rfl)) (by unfold Func.isWrapper; first | (rw [if_pos (by decide +kernel)]; kernel_rfl) | (rw [if_neg (by decide +kernel)]; exact ⟨rfl, rfl⟩))
    (fun os started H enc _ => lifted os started H enc)
theorem proved : Rows.WeaveMeansSaid := over
end Go.Proofs.Ytnlajjeppdchiaa.E.Row
namespace Go.Proofs.Ytnlajjeppdchiaa
/-- The row, under a short name, for the claim. -/
theorem weaveMeans_holds : Rows.WeaveMeansSaid := Ytnlajjeppdchiaa.E.Row.proved
#print axioms weaveMeans_holds
end Go.Proofs.Ytnlajjeppdchiaa
