/- The statement LedgerApart for every input: the plain facts on the functions' results, and the row. No condition. -/
import Derived.Test.YtkbhbiceojmnaaaGF1
import Derived.Test.YtkbhbiceojmnaaaGE2
import Derived.Test.YtkbhbiceojmnaaaGF0
import Derived.Test.YtkbhbiceojmnaaaRows
import Derived.Test.YtkbhbiceojmnaaaChecked
namespace Go.Proofs.Ytkbhbiceojmnaaa.E
open Go
def W31 (a : (Bool × (ByteArray × (Int × (Int × Int))))) : Prop := True ∧ (ByteArray.size a.2.1 ≤ 140737488351232) ∧ (-9223372036854775808 ≤ a.2.2.1 ∧ a.2.2.1 ≤ 9223372036854775807) ∧ (-9223372036854775808 ≤ a.2.2.2.1 ∧ a.2.2.2.1 ≤ 9223372036854775807) ∧ (-9223372036854775808 ≤ a.2.2.2.2 ∧ a.2.2.2.2 ≤ 9223372036854775807)
def PLedgerApart : Prop := ∀ (a0 : (List (Bool × (ByteArray × (Int × (Int × Int)))))), (List.length a0 * Program.bytesOf Try.prog 31 ≤ 140737488351232 ∧ ∀ x ∈ a0, W31 x) → N6 (a0, ()) = some (true, ())
end Go.Proofs.Ytkbhbiceojmnaaa.E
/-
  Heaps in lists: plain facts. No program here; the order's two laws are the only condition.
-/
namespace Go.Proofs.Ytkbhbiceojmnaaa.E.Hp
open Go
set_option linter.unusedVariables false
set_option linter.unusedSectionVars false
set_option linter.unusedSimpArgs false
theorem getD_set {γ : Type} {l : List γ} {i j : Nat} {a z : γ} (hi : i < l.length) : (l.set i a).getD j z = if j = i then a else l.getD j z := by
  rw [List.getD_eq_getElem?_getD, List.getD_eq_getElem?_getD, List.getElem?_set]
  by_cases h : i = j
  · subst h
    simp [hi]
  · rw [if_neg h, if_neg (fun e => h e.symm)]
theorem getD_get {γ : Type} {l : List γ} {j : Nat} {z : γ} (h : j < l.length) : l.getD j z = l[j] := by
  rw [List.getD_eq_getElem?_getD, List.getElem?_eq_getElem h]
  rfl
section
variable {α : Type} [DecidableEq α] {z : α}
def swp (z : α) (l : List α) (i j : Nat) : List α := (l.set i (l.getD j z)).set j (l.getD i z)
theorem swp_len (l : List α) (i j : Nat) : (swp z l i j).length = l.length := by simp [swp]
theorem swp_get {l : List α} {i j k : Nat} (hi : i < l.length) (hj : j < l.length) : (swp z l i j).getD k z = if k = j then l.getD i z else if k = i then l.getD j z else l.getD k z := by
  unfold swp
  rw [getD_set (by simpa using hj), getD_set hi]
theorem swp_perm {l : List α} {i j : Nat} (hi : i < l.length) (hj : j < l.length) : (swp z l i j).Perm l := by
  rw [List.perm_iff_count]
  intro a
  unfold swp
  rw [getD_get hj, getD_get hi, List.count_set (by simpa using hj), List.count_set hi, List.getElem_set]
  have h1 : (if l[i] == a then 1 else 0) ≤ l.count a := by
    split
    · rename_i h
      have : l[i] = a := by simpa using h
      exact List.count_pos_iff.2 (this ▸ List.getElem_mem hi)
    · omega
  by_cases hij : i = j
  · subst hij
    simp only [if_true]
    omega
  · rw [if_neg hij]
    have h2 : (if l[i] == a then 1 else 0) + (if l[j] == a then 1 else 0) ≤ l.count a ∨ ¬ (l[i] == a ∧ l[j] == a) := by
      by_cases hb : (l[i] == a) = true ∧ (l[j] == a) = true
      · refine .inl ?_
        rw [if_pos hb.1, if_pos hb.2]
        have e1 : l[i] = a := by simpa using hb.1
        have e2 : l[j] = a := by simpa using hb.2
        -- two places
        have : ∀ (l : List α) (i j : Nat) (hi : i < l.length) (hj : j < l.length), i < j → l[i] = a → l[j] = a → 2 ≤ l.count a := by
          intro l
          induction l with
          | nil => intro i j hi; simp at hi
          | cons x l ih =>
            intro i j hi hj h1 h2 h3
            cases j with
            | zero => omega
            | succ j =>
              cases i with
              | zero =>
                simp only [List.getElem_cons_zero] at h2
                simp only [List.getElem_cons_succ] at h3
                subst h2
                rw [List.count_cons_self]
                have := List.count_pos_iff.2 (h3 ▸ List.getElem_mem (by simpa using hj : j < l.length))
                omega
              | succ i =>
                have := ih i j (by simpa using hi) (by simpa using hj) (by omega) (by simpa using h2) (by simpa using h3)
                exact Nat.le_trans this (List.count_le_count_cons)
        rcases Nat.lt_or_gt_of_ne hij with h | h
        · exact this l i j hi hj h e1 e2
        · exact this l j i hj hi h e2 e1
      · exact .inr hb
    have h3 : (if l[j] == a then 1 else 0) ≤ l.count a := by
      split
      · rename_i h
        have : l[j] = a := by simpa using h
        exact List.count_pos_iff.2 (this ▸ List.getElem_mem hj)
      · omega
    by_cases ha : (l[i] == a) = true <;> by_cases hb : (l[j] == a) = true <;> simp only [ha, hb, if_true, if_false, Bool.false_eq_true] at h1 h2 h3 ⊢ <;> omega
variable (lt : α → α → Bool)
/-- The order's laws. -/
structure Lw : Prop where
  asym : ∀ a b, lt a b = true → lt b a = false
  neg : ∀ a b c, lt a b = false → lt b c = false → lt a c = false
def Heap (z : α) (l : List α) (n : Nat) : Prop := ∀ c, 0 < c → c < n → lt (l.getD c z) (l.getD ((c - 1) / 2) z) = false
structure UpI (z : α) (l : List α) (j : Nat) : Prop where
  a : ∀ c, 0 < c → c < l.length → c ≠ j → lt (l.getD c z) (l.getD ((c - 1) / 2) z) = false
  b : ∀ c, 0 < c → c < l.length → (c - 1) / 2 = j → 0 < j → lt (l.getD c z) (l.getD ((j - 1) / 2) z) = false
variable {lt} (W : Lw lt)
include W
theorem up_end {l : List α} {j : Nat} (h : UpI lt z l j) (hj : j = 0 ∨ lt (l.getD j z) (l.getD ((j - 1) / 2) z) = false) : Heap lt z l l.length := fun c c0 c1 => by
  by_cases e : c = j
  · subst e
    rcases hj with h | h
    · omega
    · exact h
  · exact h.a c c0 c1 e
theorem up_step {l : List α} {j : Nat} (h : UpI lt z l j) (h0 : 0 < j) (hj : j < l.length) (hl : lt (l.getD j z) (l.getD ((j - 1) / 2) z) = true) : UpI lt z (swp z l ((j - 1) / 2) j) ((j - 1) / 2) := by
  have hi : (j - 1) / 2 < l.length := by omega
  have asy := W.asym _ _ hl
  have ln := swp_len (z := z) l ((j - 1) / 2) j
  refine ⟨fun c c0 c1 ce => ?_, fun c c0 c1 cp i0 => ?_⟩
  · rw [ln] at c1
    rw [swp_get hi hj, swp_get hi hj]
    by_cases k1 : c = j
    · subst k1
      rw [if_pos rfl, if_neg (by omega), if_pos rfl]
      exact asy
    · rw [if_neg k1, if_neg ce]
      by_cases k2 : (c - 1) / 2 = j
      · rw [if_pos k2]
        exact h.b c c0 c1 k2 h0
      · rw [if_neg k2]
        by_cases k3 : (c - 1) / 2 = (j - 1) / 2
        · rw [if_pos k3]
          have := h.a c c0 c1 k1
          rw [k3] at this
          exact W.neg _ _ _ this asy
        · rw [if_neg k3]
          exact h.a c c0 c1 k1
  · rw [ln] at c1
    rw [swp_get hi hj, swp_get hi hj, if_neg (show ¬ ((j - 1) / 2 - 1) / 2 = j by omega), if_neg (show ¬ ((j - 1) / 2 - 1) / 2 = (j - 1) / 2 by omega)]
    have top := h.a ((j - 1) / 2) i0 hi (by omega)
    by_cases k1 : c = j
    · rw [if_pos k1]
      exact top
    · rw [if_neg k1, if_neg (by omega)]
      have := h.a c c0 c1 k1
      rw [cp] at this
      exact W.neg _ _ _ this top
omit W in
theorem push_start {l : List α} {x : α} (h : Heap lt z l l.length) : UpI lt z (l ++ [x]) l.length := by
  have g : ∀ c, c < l.length → (l ++ [x]).getD c z = l.getD c z := fun c hc => by
    rw [List.getD_eq_getElem?_getD, List.getD_eq_getElem?_getD, List.getElem?_append_left hc]
  refine ⟨fun c c0 c1 ce => ?_, fun c c0 c1 cp j0 => ?_⟩
  · simp only [List.length_append, List.length_singleton] at c1
    rw [g c (by omega), g _ (by omega)]
    exact h c c0 (by omega)
  · simp only [List.length_append, List.length_singleton] at c1
    omega
structure DnI (lt : α → α → Bool) (z : α) (l : List α) (i n : Nat) : Prop where
  a : ∀ c, 0 < c → c < n → (c - 1) / 2 ≠ i → lt (l.getD c z) (l.getD ((c - 1) / 2) z) = false
  b : ∀ c, 0 < c → c < n → (c - 1) / 2 = i → 0 < i → lt (l.getD c z) (l.getD ((i - 1) / 2) z) = false
omit W in
theorem dn_end0 {l : List α} {i n : Nat} (h : DnI lt z l i n) (hi : n ≤ 2 * i + 1) : Heap lt z l n := fun c c0 c1 => h.a c c0 c1 (by omega)
/-- j is the lesser child. -/
def Kid (lt : α → α → Bool) (z : α) (l : List α) (i n j : Nat) : Prop := (j - 1) / 2 = i ∧ 0 < j ∧ j < n ∧ ∀ c, 0 < c → c < n → (c - 1) / 2 = i → c ≠ j → lt (l.getD c z) (l.getD j z) = false
theorem dn_end {l : List α} {i n j : Nat} (h : DnI lt z l i n) (k : Kid lt z l i n j) (hl : lt (l.getD j z) (l.getD i z) = false) : Heap lt z l n := fun c c0 c1 => by
  by_cases e : (c - 1) / 2 = i
  · rw [e]
    by_cases ej : c = j
    · rw [ej]; exact hl
    · exact W.neg _ _ _ (k.2.2.2 c c0 c1 e ej) hl
  · exact h.a c c0 c1 e
theorem dn_step {l : List α} {i n j : Nat} (hn : n ≤ l.length) (h : DnI lt z l i n) (k : Kid lt z l i n j) (hl : lt (l.getD j z) (l.getD i z) = true) : DnI lt z (swp z l i j) j n := by
  obtain ⟨k1, k2, k3, k4⟩ := k
  have hi : i < l.length := by omega
  have hj : j < l.length := by omega
  have asy := W.asym _ _ hl
  refine ⟨fun c c0 c1 ce => ?_, fun c c0 c1 cp j0 => ?_⟩
  · rw [swp_get hi hj, swp_get hi hj]
    by_cases e1 : c = j
    · subst e1
      rw [if_pos rfl, k1, if_neg (by omega), if_pos rfl]
      exact asy
    · rw [if_neg e1, if_neg ce]
      by_cases e2 : c = i
      · subst e2
        rw [if_pos rfl, if_neg (by omega)]
        exact h.b j k2 k3 k1 c0
      · rw [if_neg e2]
        by_cases e3 : (c - 1) / 2 = i
        · rw [if_pos e3]
          exact k4 c c0 c1 e3 e1
        · rw [if_neg e3]
          exact h.a c c0 c1 e3
  · rw [swp_get hi hj, swp_get hi hj, k1, if_neg (by omega), if_neg (by omega), if_neg (by omega), if_pos rfl]
    have := h.a c c0 c1 (by omega)
    rw [cp] at this
    exact this
/-- The first one is the least. -/
theorem heap_least {l : List α} {n : Nat} (h : Heap lt z l n) : ∀ (m c : Nat), c ≤ m → c < n → lt (l.getD c z) (l.getD 0 z) = false
  | m, c, hm, hc => by
    by_cases c0 : c = 0
    · subst c0
      cases e : lt (l.getD 0 z) (l.getD 0 z) with
      | false => rfl
      | true => exact absurd e (by rw [W.asym _ _ e]; decide)
    · have a := h c (by omega) hc
      have b := heap_least h (m - 1) ((c - 1) / 2) (by omega) (by omega)
      exact W.neg _ _ _ a b
termination_by m => m
decreasing_by omega
omit W in
/-- The last one laid to the front, ahead of going down. -/
theorem pop_start {l : List α} {n : Nat} (hl : l.length = n + 1) (h : Heap lt z l (n + 1)) : DnI lt z (swp z l 0 n) 0 n := by
  refine ⟨fun c c0 c1 ce => ?_, fun c c0 c1 cp j0 => by omega⟩
  rw [swp_get (by omega) (by omega), swp_get (by omega) (by omega), if_neg (by omega), if_neg (by omega), if_neg (by omega), if_neg (by omega)]
  exact h c c0 (by omega)
end
end Go.Proofs.Ytkbhbiceojmnaaa.E.Hp
/-
  Heaps in lists, more: an element taken out at any place; up within the first n. No program here; the order's two laws are the only condition.
-/
namespace Go.Proofs.Ytkbhbiceojmnaaa.E.Hp
open Go
set_option linter.unusedVariables false
set_option linter.unusedSectionVars false
set_option linter.unusedSimpArgs false
section
variable {α : Type} [DecidableEq α] {z : α}
variable (lt : α → α → Bool)
structure UpN (z : α) (l : List α) (j n : Nat) : Prop where
  a : ∀ c, 0 < c → c < n → c ≠ j → lt (l.getD c z) (l.getD ((c - 1) / 2) z) = false
  b : ∀ c, 0 < c → c < n → (c - 1) / 2 = j → 0 < j → lt (l.getD c z) (l.getD ((j - 1) / 2) z) = false
/-- All in order but what lies at i. -/
structure RmI (z : α) (l : List α) (i n : Nat) : Prop where
  a : ∀ c, 0 < c → c < n → c ≠ i → (c - 1) / 2 ≠ i → lt (l.getD c z) (l.getD ((c - 1) / 2) z) = false
  b : ∀ c, 0 < c → c < n → (c - 1) / 2 = i → 0 < i → lt (l.getD c z) (l.getD ((i - 1) / 2) z) = false
variable {lt} (W : Lw lt)
include W
theorem upn_end {l : List α} {j n : Nat} (h : UpN lt z l j n) (hj : j = 0 ∨ lt (l.getD j z) (l.getD ((j - 1) / 2) z) = false) : Heap lt z l n := fun c c0 c1 => by
  by_cases e : c = j
  · subst e
    rcases hj with h | h
    · omega
    · exact h
  · exact h.a c c0 c1 e
theorem upn_step {l : List α} {j n : Nat} (h : UpN lt z l j n) (h0 : 0 < j) (hj : j < n) (hn : n ≤ l.length) (hl : lt (l.getD j z) (l.getD ((j - 1) / 2) z) = true) : UpN lt z (swp z l ((j - 1) / 2) j) ((j - 1) / 2) n := by
  have hi : (j - 1) / 2 < l.length := by omega
  have hj' : j < l.length := by omega
  have asy := W.asym _ _ hl
  refine ⟨fun c c0 c1 ce => ?_, fun c c0 c1 cp i0 => ?_⟩
  · rw [swp_get hi hj', swp_get hi hj']
    by_cases k1 : c = j
    · subst k1
      rw [if_pos rfl, if_neg (by omega), if_pos rfl]
      exact asy
    · rw [if_neg k1, if_neg ce]
      by_cases k2 : (c - 1) / 2 = j
      · rw [if_pos k2]
        exact h.b c c0 c1 k2 h0
      · rw [if_neg k2]
        by_cases k3 : (c - 1) / 2 = (j - 1) / 2
        · rw [if_pos k3]
          have := h.a c c0 c1 k1
          rw [k3] at this
          exact W.neg _ _ _ this asy
        · rw [if_neg k3]
          exact h.a c c0 c1 k1
  · rw [swp_get hi hj', swp_get hi hj', if_neg (show ¬ ((j - 1) / 2 - 1) / 2 = j by omega), if_neg (show ¬ ((j - 1) / 2 - 1) / 2 = (j - 1) / 2 by omega)]
    have top := h.a ((j - 1) / 2) i0 (by omega) (by omega)
    by_cases k1 : c = j
    · rw [if_pos k1]
      exact top
    · rw [if_neg k1, if_neg (by omega)]
      have := h.a c c0 c1 k1
      rw [cp] at this
      exact W.neg _ _ _ this top
omit W in
theorem upn_heap {l : List α} {j n : Nat} (h : Heap lt z l n) (hb : ∀ c, 0 < c → c < n → (c - 1) / 2 = j → 0 < j → lt (l.getD c z) (l.getD ((j - 1) / 2) z) = false) : UpN lt z l j n := ⟨fun c c0 c1 _ => h c c0 c1, hb⟩
theorem upn_of_heap {l : List α} {j n : Nat} (hj : j < n) (h : Heap lt z l n) : UpN lt z l j n := upn_heap h fun c c0 c1 cp j0 => by
  have h1 := h c c0 c1
  rw [cp] at h1
  exact W.neg _ _ _ h1 (h j j0 hj)
omit W in
theorem upn_push {l : List α} {x : α} (h : Heap lt z l l.length) : UpN lt z (l ++ [x]) l.length (l.length + 1) := by
  have g : ∀ c, c < l.length → (l ++ [x]).getD c z = l.getD c z := fun c hc => by
    rw [List.getD_eq_getElem?_getD, List.getD_eq_getElem?_getD, List.getElem?_append_left hc]
  refine ⟨fun c c0 c1 ce => ?_, fun c c0 c1 cp j0 => ?_⟩
  · rw [g c (by omega), g _ (by omega)]
    exact h c c0 (by omega)
  · omega
theorem rm_start {l : List α} {i n : Nat} (hl : l.length = n + 1) (hi : i < n) (h : Heap lt z l (n + 1)) : RmI lt z (swp z l i n) i n := by
  refine ⟨fun c c0 c1 ce cp => ?_, fun c c0 c1 cp i0 => ?_⟩
  · rw [swp_get (by omega) (by omega), swp_get (by omega) (by omega), if_neg (by omega), if_neg (by omega), if_neg (by omega), if_neg (by omega)]
    exact h c c0 (by omega)
  · rw [swp_get (by omega) (by omega), swp_get (by omega) (by omega), if_neg (by omega), if_neg (by omega), if_neg (by omega), if_neg (by omega)]
    have h1 := h c c0 (by omega)
    rw [cp] at h1
    exact W.neg _ _ _ h1 (h i i0 (by omega))
omit W in
theorem rm_dn {l : List α} {i n : Nat} (h : RmI lt z l i n) (hi : i = 0 ∨ lt (l.getD i z) (l.getD ((i - 1) / 2) z) = false) : DnI lt z l i n := ⟨fun c c0 c1 cp => by
  by_cases e : c = i
  · subst e
    rcases hi with hi | hi
    · omega
    · exact hi
  · exact h.a c c0 c1 e cp, h.b⟩
theorem rm_up {l : List α} {i n : Nat} (h : RmI lt z l i n) (i0 : 0 < i) (hi : lt (l.getD i z) (l.getD ((i - 1) / 2) z) = true) : UpN lt z l i n ∧ ∀ c, 0 < c → c < n → (c - 1) / 2 = i → lt (l.getD c z) (l.getD i z) = false := by
  have asy := W.asym _ _ hi
  have kids : ∀ c, 0 < c → c < n → (c - 1) / 2 = i → lt (l.getD c z) (l.getD i z) = false := fun c c0 c1 cp => W.neg _ _ _ (h.b c c0 c1 cp i0) asy
  refine ⟨⟨fun c c0 c1 ce => ?_, h.b⟩, kids⟩
  by_cases e : (c - 1) / 2 = i
  · rw [e]; exact kids c c0 c1 e
  · exact h.a c c0 c1 ce e
end
end Go.Proofs.Ytkbhbiceojmnaaa.E.Hp
/-
  The queue of open bills is a heap. No condition but its length.
-/
namespace Go.Proofs.Ytkbhbiceojmnaaa.E
open Go
set_option linter.unusedVariables false
set_option linter.unusedSimpArgs false
set_option maxRecDepth 100000
open Hp (swp swp_len swp_get swp_perm getD_get)
theorem q_asym (a b : Qe) (h : qlt a b = true) : qlt b a = false := by
  cases h2 : qlt b a with
  | false => rfl
  | true => have := qswo.trans a b a h h2; rw [qswo.irrefl] at this; cases this
theorem qlw : Hp.Lw qlt := ⟨q_asym, fun a b c h1 h2 => qswo.ntrans a b c h1 h2⟩
abbrev QHeap (l : List Qe) : Prop := Hp.Heap qlt qz l l.length
theorem inb {i n : Nat} (h : i < n) : (decide (0 ≤ (i : Int)) && decide ((i : Int) < (n : Int))) = true := by rw [decide_eq_true (show 0 ≤ (i : Int) by omega), decide_eq_true (show (i : Int) < (n : Int) by omega)]; rfl
theorem qLess {l : List Qe} {i j : Nat} (hi : i < l.length) (hj : j < l.length) : N93 (l, (i : Int), (j : Int), ()) = some (qlt (l.getD i qz) (l.getD j qz), l, ()) := by
  unfold N93 M93
  simp only []
  rw [inb hi, inb hj]
  simp only [Int.toNat_natCast, List.getElem?_eq_getElem hi, List.getElem?_eq_getElem hj, Option.bind_some, cond_true]
  rw [getD_get hi, getD_get hj]
  have e := mCompare l[i] l[j]
  rw [show N31 ((l[i].1, l[i].2.1, l[i].2.2), (l[j].1, l[j].2.1, l[j].2.2), ()) = _ from e]
  simp only [Option.bind_some]
  rw [cmpQ_lt]
theorem qSwap {l : List Qe} {i j : Nat} (hi : i < l.length) (hj : j < l.length) : N94 (l, (i : Int), (j : Int), ()) = some (swp qz l i j, ()) := by
  unfold N94 M94
  simp only [List.length_set]
  rw [inb hi, inb hj]
  simp only [Int.toNat_natCast, List.getElem?_eq_getElem hi, List.getElem?_eq_getElem hj, Option.bind_some, cond_true]
  have h2 : j < (l.set i (l[j].1, l[j].2.1, l[j].2.2)).length := by simpa using hj
  rw [List.getElem?_eq_getElem h2]
  simp only [Option.bind_some]
  unfold swp
  rw [getD_get hi, getD_get hj]
theorem qLen (l : List Qe) : N32 (l, ()) = some ((l.length : Int), l, ()) := rfl
theorem qUp (cr : Int) (ps : List Int) : ∀ (m : Nat) (l : List Qe) (j n : Nat), j ≤ m → j < n → n ≤ l.length → l.length ≤ 1000000000 → Hp.UpN qlt qz l j n → ∃ l', itr R36_0 (m + 1) ((l, cr, ps, ()), (j : Int), ()) = some ((l', cr, ps, ()), ()) ∧ Hp.Heap qlt qz l' n ∧ l'.Perm l ∧ l'.length = l.length ∧ ∀ c, n ≤ c → l'.getD c qz = l.getD c qz
  | m, l, j, n, hm, hj, hn, hl, h => by
    have hp : IntKind.wrap .i64 (Int.tdiv (IntKind.wrap .i64 ((j : Int) - 1)) 2) = (((j - 1) / 2 : Nat) : Int) := by
      rw [wsi (n := (j : Int) - 1) (by omega)]
      by_cases j0 : j = 0
      · subst j0; rfl
      · rw [tdiv_pos (by omega), wsi (by omega)]; omega
    by_cases j0 : j = 0
    · refine ⟨l, ?_, Hp.upn_end qlw h (.inl j0), .refl _, rfl, fun _ _ => rfl⟩
      refine itr_out ?_
      unfold R36_0 Q36_0
      simp only []
      rw [hp, bif_t (show ((((j - 1) / 2 : Nat) : Int) == (j : Int)) = true from by simp; omega)]
    · have hj' : j < l.length := by omega
      have hi : (j - 1) / 2 < l.length := by omega
      have hs := qSwap hi hj'
      cases hc : qlt (l.getD j qz) (l.getD ((j - 1) / 2) qz) with
      | false =>
        refine ⟨l, ?_, Hp.upn_end qlw h (.inr hc), .refl _, rfl, fun _ _ => rfl⟩
        refine itr_out ?_
        unfold R36_0 Q36_0
        simp only []
        rw [hp, bif_f (show ((((j - 1) / 2 : Nat) : Int) == (j : Int)) = false from by simp; omega), qLess hj' hi, hc]
        rfl
      | true =>
        have hr : R36_0 ((l, cr, ps, ()), (j : Int), ()) = some (.inl ((swp qz l ((j - 1) / 2) j, cr, ps, ()), (((j - 1) / 2 : Nat) : Int), ())) := by
          unfold R36_0 Q36_0
          simp only []
          rw [hp, bif_f (show ((((j - 1) / 2 : Nat) : Int) == (j : Int)) = false from by simp; omega), qLess hj' hi, hc]
          simp only [Option.bind_some, Bool.not_true, cond_false]
          rw [hs]
          rfl
        have ln := swp_len (z := qz) l ((j - 1) / 2) j
        cases m with
        | zero => omega
        | succ m =>
          obtain ⟨l', e, a1, b1, c1, d1⟩ := qUp cr ps m (swp qz l ((j - 1) / 2) j) ((j - 1) / 2) n (by omega) (by omega) (by omega) (by omega) (Hp.upn_step qlw h (by omega) hj hn hc)
          exact ⟨l', by rw [itr_in hr, e], a1, b1.trans (swp_perm hi hj'), by omega, fun c hc => by rw [d1 c hc, swp_get hi hj', if_neg (by omega), if_neg (by omega)]⟩
theorem qUpN (cr : Int) (ps : List Int) {l : List Qe} {j n : Nat} (hj : j < n) (hn : n ≤ l.length) (hl : l.length ≤ 1000000000) (h : Hp.UpN qlt qz l j n) : ∃ l', N36 ((l, cr, ps, ()), (j : Int), ()) = some ((l', cr, ps, ()), ()) ∧ Hp.Heap qlt qz l' n ∧ l'.Perm l ∧ l'.length = l.length ∧ ∀ c, n ≤ c → l'.getD c qz = l.getD c qz := by
  obtain ⟨l', e, k⟩ := qUp cr ps j l j n (Nat.le_refl _) hj hn hl h
  refine ⟨l', ?_, k⟩
  unfold N36 M36
  simp only []
  rw [itrs_of e (by omega)]
  rfl
theorem qPush (cr : Int) (ps : List Int) {l : List Qe} {x : Qe} (h : QHeap l) (hl : l.length < 1000000000) : ∃ l', N26 ((l, cr, ps, ()), x, ()) = some ((l', cr, ps, ()), ()) ∧ QHeap l' ∧ l'.Perm (l ++ [x]) ∧ l'.length = l.length + 1 := by
  obtain ⟨l', e, a1, b1, c1, _⟩ := qUpN cr ps (l := l ++ [x]) (j := l.length) (n := l.length + 1) (by omega) (by simp) (by simp; omega) (Hp.upn_push h)
  have hl' : l'.length = l.length + 1 := by rw [c1]; simp
  refine ⟨l', ?_, by unfold QHeap; rw [hl']; exact a1, b1, hl'⟩
  obtain ⟨x0, x1, x2⟩ := x
  unfold N26 M26 N96 M96
  simp only []
  rw [bif_t (decide_eq_true (by omega))]
  simp only [Option.bind_some]
  rw [qLen]
  simp only [Option.bind_some]
  rw [wsi (by simp; omega), show ((l ++ [(x0, x1, x2)]).length : Int) - 1 = (l.length : Int) from by simp]
  rw [e]
  rfl
theorem kid_of {l : List Qe} {i n : Nat} (h1 : 2 * i + 1 < n) : Hp.Kid qlt qz l i n (if 2 * i + 2 < n ∧ qlt (l.getD (2 * i + 2) qz) (l.getD (2 * i + 1) qz) = true then 2 * i + 2 else 2 * i + 1) := by
  split
  · rename_i h
    refine ⟨by omega, by omega, h.1, fun c c0 c1 cp ce => ?_⟩
    rw [show c = 2 * i + 1 from by omega]
    exact qlw.asym _ _ h.2
  · rename_i h
    refine ⟨by omega, by omega, h1, fun c c0 c1 cp ce => ?_⟩
    have ec : c = 2 * i + 2 := by omega
    subst ec
    cases hq : qlt (l.getD (2 * i + 2) qz) (l.getD (2 * i + 1) qz) with
    | false => rfl
    | true => exact absurd ⟨c1, hq⟩ h
theorem dn_leaf (cr : Int) (ps : List Int) (i0 : Int) {l : List Qe} {i n : Nat} (hl : n ≤ 1000000000) (hin : i ≤ n) (h1 : n ≤ 2 * i + 1) : R44_0 ((l, cr, ps, ()), i0, (n : Int), (i : Int), ()) = some (.inr ((l, cr, ps, ()), i0, (i : Int), ())) := by
  have p1 : IntKind.wrap .i64 (IntKind.wrap .i64 (2 * (i : Int)) + 1) = ((2 * i + 1 : Nat) : Int) := by
    rw [wsi (n := 2 * (i : Int)) (by omega), wsi (by omega)]; omega
  unfold R44_0 Q44_0
  simp only []
  rw [p1, bif_t (decide_eq_true (by omega))]
theorem dn_round (cr : Int) (ps : List Int) (i0 : Int) {l : List Qe} {i n j : Nat} (hn : n ≤ l.length) (hl : l.length ≤ 1000000000) (h1 : 2 * i + 1 < n) (hjv : (if 2 * i + 2 < n ∧ qlt (l.getD (2 * i + 2) qz) (l.getD (2 * i + 1) qz) = true then 2 * i + 2 else 2 * i + 1) = j) :
    R44_0 ((l, cr, ps, ()), i0, (n : Int), (i : Int), ()) = (bif qlt (l.getD j qz) (l.getD i qz) then some (.inl ((swp qz l i j, cr, ps, ()), i0, (n : Int), (j : Int), ())) else some (.inr ((l, cr, ps, ()), i0, (i : Int), ()))) := by
  have p1 : IntKind.wrap .i64 (IntKind.wrap .i64 (2 * (i : Int)) + 1) = ((2 * i + 1 : Nat) : Int) := by
    rw [wsi (n := 2 * (i : Int)) (by omega), wsi (by omega)]; omega
  have p2 : IntKind.wrap .i64 (((2 * i + 1 : Nat) : Int) + 1) = ((2 * i + 2 : Nat) : Int) := by rw [wsi (by omega)]; omega
  have hi : i < l.length := by omega
  have hj1 : 2 * i + 1 < l.length := by omega
  have hj : j < l.length := by subst hjv; split <;> omega
  have hs := qSwap hi hj
  unfold R44_0 Q44_0
  simp only []
  rw [p1, p2, bif_f (decide_eq_false (by omega)), bif_f (decide_eq_false (by omega))]
  by_cases h2 : 2 * i + 2 < n
  · have hj2 : 2 * i + 2 < l.length := by omega
    rw [bif_t (decide_eq_true (by omega)), qLess hj2 hj1]
    simp only [Option.bind_some]
    cases hq : qlt (l.getD (2 * i + 2) qz) (l.getD (2 * i + 1) qz) with
    | true =>
      rw [if_pos ⟨h2, hq⟩] at hjv
      subst hjv
      simp only [cond_true]
      rw [qLess hj2 hi]
      simp only [Option.bind_some]
      rw [hs]
      cases qlt (l.getD (2 * i + 2) qz) (l.getD i qz) <;> rfl
    | false =>
      rw [if_neg (by rw [hq]; simp)] at hjv
      subst hjv
      simp only [cond_false]
      rw [qLess hj1 hi]
      simp only [Option.bind_some]
      rw [hs]
      cases qlt (l.getD (2 * i + 1) qz) (l.getD i qz) <;> rfl
  · rw [if_neg (by omega)] at hjv
    subst hjv
    rw [bif_f (decide_eq_false (by omega)), qLess hj1 hi]
    simp only [Option.bind_some]
    rw [hs]
    cases qlt (l.getD (2 * i + 1) qz) (l.getD i qz) <;> rfl
theorem qDown (cr : Int) (ps : List Int) (i0 : Int) : ∀ (m : Nat) (l : List Qe) (i n : Nat), n ≤ i + m → n ≤ l.length → l.length ≤ 1000000000 → i ≤ n → Hp.DnI qlt qz l i n → ∃ l' k, itr R44_0 (m + 1) ((l, cr, ps, ()), i0, (n : Int), (i : Int), ()) = some ((l', cr, ps, ()), i0, k, ()) ∧ Hp.Heap qlt qz l' n ∧ l'.Perm l ∧ l'.length = l.length ∧ ∀ c, n ≤ c → l'.getD c qz = l.getD c qz
  | m, l, i, n, hm, hn, hl, hin, h => by
    by_cases h1 : 2 * i + 1 < n
    rotate_left
    · exact ⟨l, (i : Int), itr_out (dn_leaf cr ps i0 (by omega) hin (by omega)), Hp.dn_end0 h (by omega), .refl _, rfl, fun _ _ => rfl⟩
    have kid := kid_of (l := l) h1
    have hi : i < l.length := by omega
    generalize hjv : (if 2 * i + 2 < n ∧ qlt (l.getD (2 * i + 2) qz) (l.getD (2 * i + 1) qz) = true then 2 * i + 2 else 2 * i + 1) = j at kid
    have hr := dn_round cr ps i0 hn hl h1 hjv
    have hj : j < l.length := by have := kid.2.2.1; omega
    cases hc : qlt (l.getD j qz) (l.getD i qz) with
    | false =>
      rw [hc] at hr
      exact ⟨l, (i : Int), itr_out hr, Hp.dn_end qlw h kid hc, .refl _, rfl, fun _ _ => rfl⟩
    | true =>
      rw [hc] at hr
      have ln := swp_len (z := qz) l i j
      have kj := kid.2.2.1
      have kj1 := kid.1
      have kj0 := kid.2.1
      cases m with
      | zero => omega
      | succ m =>
        obtain ⟨l', k, e, a1, b1, c1, d1⟩ := qDown cr ps i0 m (swp qz l i j) j n (by omega) (by omega) (by omega) (by omega) (Hp.dn_step qlw hn h kid hc)
        refine ⟨l', k, by rw [itr_in hr, e], a1, b1.trans (swp_perm hi hj), by omega, fun x hx => ?_⟩
        rw [d1 x hx, swp_get hi hj, if_neg (by omega), if_neg (by omega)]
theorem qDownN (cr : Int) (ps : List Int) {l : List Qe} {i n : Nat} (hn : n ≤ l.length) (hl : l.length ≤ 1000000000) (hin : i ≤ n) (h : Hp.DnI qlt qz l i n) : ∃ l' k, N44 ((l, cr, ps, ()), (i : Int), (n : Int), ()) = some (k, (l', cr, ps, ()), ()) ∧ Hp.Heap qlt qz l' n ∧ l'.Perm l ∧ l'.length = l.length ∧ ∀ c, n ≤ c → l'.getD c qz = l.getD c qz := by
  obtain ⟨l', k, e, r⟩ := qDown cr ps (i : Int) n l i n (by omega) hn hl hin h
  refine ⟨l', decide (k > (i : Int)), ?_, r⟩
  unfold N44 M44
  simp only []
  rw [itrs_of e (by omega)]
  rfl
theorem qStay (cr : Int) (ps : List Int) {l : List Qe} {i n : Nat} (hn : n ≤ l.length) (hl : l.length ≤ 1000000000) (hin : i ≤ n) (h : ∀ c, 0 < c → c < n → (c - 1) / 2 = i → qlt (l.getD c qz) (l.getD i qz) = false) : N44 ((l, cr, ps, ()), (i : Int), (n : Int), ()) = some (false, (l, cr, ps, ()), ()) := by
  have e : itr R44_0 1 ((l, cr, ps, ()), (i : Int), (n : Int), (i : Int), ()) = some ((l, cr, ps, ()), (i : Int), (i : Int), ()) := by
    by_cases h1 : 2 * i + 1 < n
    rotate_left
    · exact itr_out (dn_leaf cr ps (i : Int) (by omega) hin (by omega))
    have kid := kid_of (l := l) h1
    generalize hjv : (if 2 * i + 2 < n ∧ qlt (l.getD (2 * i + 2) qz) (l.getD (2 * i + 1) qz) = true then 2 * i + 2 else 2 * i + 1) = j at kid
    have hr := dn_round cr ps (i : Int) hn hl h1 hjv
    rw [h j kid.2.1 kid.2.2.1 kid.1] at hr
    exact itr_out hr
  unfold N44 M44
  simp only []
  rw [itrs_of e (by omega)]
  simp only [Option.bind_some]
  rw [decide_eq_false (by omega)]
/-- The last one is taken off. -/
theorem qCut (cr : Int) (ps : List Int) {l : List Qe} {n : Nat} (hn : l.length = n + 1) (hl : l.length ≤ 1000000000) (hh : Hp.Heap qlt qz l n) : N95 ((l, cr, ps, ()), ()) = some (l.getD n qz, (l.take n, cr, ps, ()), ()) ∧ QHeap (l.take n) ∧ l.Perm (l.getD n qz :: l.take n) ∧ (l.take n).length = n := by
  have lt : (l.take n).length = n := by rw [List.length_take]; omega
  have cut : l = l.take n ++ [l.getD n qz] := by
    rw [getD_get (by omega), ← List.take_succ_eq_append_getElem (by omega), List.take_of_length_le (by omega)]
  refine ⟨?_, ?_, ?_, lt⟩
  · unfold N95 M95
    simp only []
    rw [hn, wsi (by omega), show ((n + 1 : Nat) : Int) - 1 = (n : Int) from by omega, inb (show n < n + 1 by omega)]
    simp only [cond_true, Option.bind_some, Int.toNat_natCast, Nat.sub_zero]
    rw [List.getElem?_eq_getElem (show n < l.length by omega)]
    simp only [Option.bind_some]
    rw [bif_t (show (true && decide (0 ≤ (n : Int)) && decide ((n : Int) ≤ ((n + 1 : Nat) : Int))) = true from by rw [decide_eq_true (show 0 ≤ (n : Int) by omega), decide_eq_true (show (n : Int) ≤ ((n + 1 : Nat) : Int) by omega)]; rfl)]
    simp only [Option.bind_some]
    rw [bif_t (show Nat.ble n (n + 1) = true from Nat.ble_eq_true_of_le (by omega))]
    simp only [Option.bind_some]
    rw [getD_get (show n < l.length by omega)]
  · show Hp.Heap qlt qz (l.take n) (l.take n).length
    rw [lt]
    intro x x0 x1
    have g : ∀ y, y < n → (l.take n).getD y qz = l.getD y qz := fun y hy => by
      rw [List.getD_eq_getElem?_getD, List.getD_eq_getElem?_getD, List.getElem?_take_of_lt hy]
    rw [g x x1, g _ (by omega)]
    exact hh x x0 x1
  · have := List.perm_append_singleton (l.getD n qz) (l.take n)
    rw [← cut] at this
    exact this
theorem qPop (cr : Int) (ps : List Int) {l : List Qe} (h : QHeap l) (h0 : 0 < l.length) (hl : l.length ≤ 1000000000) : ∃ l', N34 ((l, cr, ps, ()), ()) = some (l.getD 0 qz, (l', cr, ps, ()), ()) ∧ QHeap l' ∧ l.Perm (l.getD 0 qz :: l') ∧ l'.length + 1 = l.length := by
  obtain ⟨n, hn⟩ : ∃ n, l.length = n + 1 := ⟨l.length - 1, by omega⟩
  have hh : Hp.Heap qlt qz l (n + 1) := by rw [← hn]; exact h
  have ln := swp_len (z := qz) l 0 n
  obtain ⟨l1, k, e, a1, b1, c1, d1⟩ := qDownN cr ps (l := swp qz l 0 n) (i := 0) (n := n) (by omega) (by omega) (by omega) (Hp.pop_start hn hh)
  have hl1 : l1.length = n + 1 := by omega
  have last : l1.getD n qz = l.getD 0 qz := by rw [d1 n (Nat.le_refl _), swp_get (by omega) (by omega), if_pos rfl]
  obtain ⟨p1, p2, p3, p4⟩ := qCut cr ps hl1 (by omega) a1
  rw [last] at p1 p3
  refine ⟨l1.take n, ?_, p2, ((swp_perm (z := qz) (show 0 < l.length by omega) (show n < l.length by omega)).symm.trans b1.symm).trans p3, by omega⟩
  have s : N94 (l, 0, (n : Int), ()) = _ := qSwap (l := l) (i := 0) (j := n) (by omega) (by omega)
  have e : N44 ((swp qz l 0 n, cr, ps, ()), 0, (n : Int), ()) = _ := e
  unfold N34 M34
  simp only []
  rw [qLen]
  simp only [Option.bind_some]
  rw [hn, wsi (by omega), show ((n + 1 : Nat) : Int) - 1 = (n : Int) from by omega, s]
  simp only [Option.bind_some]
  rw [e]
  simp only [Option.bind_some]
  rw [p1]
  rfl
/-- The first one is the least. -/
theorem q_least {l : List Qe} (h : QHeap l) (h0 : 0 < l.length) : l.getD 0 qz ∈ l ∧ ∀ x ∈ l, qlt x (l.getD 0 qz) = false := by
  refine ⟨by rw [getD_get h0]; exact List.getElem_mem h0, fun x hx => ?_⟩
  obtain ⟨c, hc, rfl⟩ := List.getElem_of_mem hx
  have := Hp.heap_least qlw h c c (Nat.le_refl _) hc
  rwa [getD_get hc] at this
end Go.Proofs.Ytkbhbiceojmnaaa.E
/-
  The credit pays the open bills: on the heap, and on the bills in their order. No condition but its bounds.
-/
namespace Go.Proofs.Ytkbhbiceojmnaaa.E
open Go
set_option linter.unusedVariables false
set_option linter.unusedSimpArgs false
set_option maxRecDepth 100000
open Hp (getD_get getD_set)
/-- Strictly rising. -/
def Ris (S : List Qe) : Prop := S.Pairwise fun a b => qlt a b = true
/-- A heap, and its bills in their order. -/
structure HS (l S : List Qe) : Prop where
  heap : QHeap l
  perm : l.Perm S
  ris : Ris S
def settleS : List Qe → Int → List Qe × Int
  | [], c => ([], c)
  | x :: S, c => if c ≤ 0 then (x :: S, c) else if x.2.2 ≤ c then settleS S (c - x.2.2) else ((x.1, x.2.1, x.2.2 - c) :: S, 0)
theorem qlt_key {a a' b b' : Qe} (h1 : a.1 = a'.1) (h2 : a.2.1 = a'.2.1) (h3 : b.1 = b'.1) (h4 : b.2.1 = b'.2.1) : qlt a b = qlt a' b' := by unfold qlt; rw [h1, h2, h3, h4]
theorem hs_head {l : List Qe} {x : Qe} {S : List Qe} (h : HS l (x :: S)) : 0 < l.length ∧ l.getD 0 qz = x := by
  have hl : l.length = S.length + 1 := by simpa using h.perm.length_eq
  refine ⟨by omega, ?_⟩
  obtain ⟨k1, k2⟩ := q_least h.heap (by omega)
  have hx : x ∈ l := h.perm.mem_iff.2 (by simp)
  have hm : l.getD 0 qz ∈ x :: S := h.perm.mem_iff.1 k1
  rcases List.mem_cons.1 hm with e | hm
  · exact e
  · have h1 := (List.pairwise_cons.1 h.ris).1 _ hm
    rw [k2 x hx] at h1
    cases h1
theorem hs_cut {l l' : List Qe} {x x' : Qe} {S : List Qe} (h : HS l (x :: S)) (hk1 : x'.1 = x.1) (hk2 : x'.2.1 = x.2.1) (hh : QHeap l') (hp : (l.set 0 x').Perm (x' :: l')) : HS l' S := by
  obtain ⟨h0, hx⟩ := hs_head h
  refine ⟨hh, ?_, (List.pairwise_cons.1 h.ris).2⟩
  have e1 : l.Perm (x :: l.drop 1) := by
    rw [getD_get h0] at hx
    rw [← hx]
    have : l = l[0] :: l.drop 1 := by
      conv => lhs; rw [← List.drop_zero (l := l), List.drop_eq_getElem_cons h0]
    rw [← this]
  have e2 : (l.set 0 x') = x' :: l.drop 1 := by
    cases l with
    | nil => simp at h0
    | cons a l => rfl
  rw [e2] at hp
  exact ((hp.cons_inv).symm).trans ((e1.symm.trans h.perm).cons_inv)
theorem hs_set {l : List Qe} {x x' : Qe} {S : List Qe} (h : HS l (x :: S)) (hk1 : x'.1 = x.1) (hk2 : x'.2.1 = x.2.1) : HS (l.set 0 x') (x' :: S) := by
  obtain ⟨h0, hx⟩ := hs_head h
  have hkey : ∀ c, ((l.set 0 x').getD c qz).1 = (l.getD c qz).1 ∧ ((l.set 0 x').getD c qz).2.1 = (l.getD c qz).2.1 := fun c => by
    rw [getD_set h0]
    by_cases e : c = 0
    · rw [if_pos e, e, hx]; exact ⟨hk1, hk2⟩
    · rw [if_neg e]; exact ⟨rfl, rfl⟩
  refine ⟨fun c h1 h2 => ?_, ?_, ?_⟩
  · rw [qlt_key (hkey c).1 (hkey c).2 (hkey _).1 (hkey _).2]
    exact h.heap c h1 (by simpa using h2)
  · cases l with
    | nil => simp at h0
    | cons a l =>
      have : a = x := by simpa using hx
      subst this
      exact (h.perm.cons_inv).cons x'
  · obtain ⟨r1, r2⟩ := List.pairwise_cons.1 h.ris
    exact List.pairwise_cons.2 ⟨fun b hb => by rw [qlt_key hk1 hk2 rfl rfl]; exact r1 b hb, r2⟩
theorem s_stop {l : List Qe} {c : Int} {ps : List Int} (hc : c ≤ 0) : R22_0 ((l, c, ps, ()), ()) = some (.inr ((l, c, ps, ()), ())) := by
  unfold R22_0 Q22_0
  simp only []
  rw [bif_f (decide_eq_false (by omega))]
theorem s_none {c : Int} {ps : List Int} : R22_0 (([], c, ps, ()), ()) = some (.inr (([], c, ps, ()), ())) := by
  by_cases hc : c ≤ 0
  · exact s_stop hc
  · unfold R22_0 Q22_0
    simp only []
    rw [bif_t (decide_eq_true (by omega)), qLen]
    rfl
theorem s_some {l : List Qe} {c : Int} {ps : List Int} {x : Qe} {S : List Qe} (h : HS l (x :: S)) (hc : 0 < c) (hr : 0 < x.2.2) (hb1 : c ≤ 1000000000000000000) (hb2 : x.2.2 ≤ 1000000000000000000) (hl : l.length ≤ 1000000) :
    ∃ l', R22_0 ((l, c, ps, ()), ()) = some (.inl ((l', (if x.2.2 ≤ c then c - x.2.2 else 0), ps, ()), ())) ∧ HS l' (if x.2.2 ≤ c then S else (x.1, x.2.1, x.2.2 - c) :: S) := by
  obtain ⟨h0, hx⟩ := hs_head h
  have hg : l[0]? = some x := by rw [← hx, List.getD_eq_getElem?_getD, List.getElem?_eq_getElem h0]; rfl
  obtain ⟨n, d, r⟩ := x
  simp only at hr hb2 hg ⊢
  have hs0 : ∀ y : Qe, (l.set 0 y)[0]? = some y := fun y => by rw [List.getElem?_set_self h0]
  unfold R22_0 Q22_0
  simp only []
  rw [bif_t (decide_eq_true (by omega)), qLen]
  simp only [Option.bind_some]
  rw [bif_t (show decide ((l.length : Int) > 0) = true from decide_eq_true (by omega)), bif_t (show (true && decide ((0 : Int) < (l.length : Int))) = true from by rw [decide_eq_true (by omega)]; rfl)]
  simp only [Option.bind_some, hg, hs0]
  by_cases hle : r ≤ c
  · have hp : (if r < c then r else c) = r := by split <;> omega
    rw [hp, if_pos hle, if_pos hle, wsi (n := r - r) (by omega), show r - r = 0 from by omega]
    rw [bif_t (show ((0 : Int) == 0) = true from rfl), wsi (n := c - r) (by omega)]
    have hq : QHeap (l.set 0 (n, d, 0)) := (hs_set (x' := (n, d, 0)) h rfl rfl).heap
    obtain ⟨l', e, k1, k2, k3⟩ := qPop (c - r) ps hq (by simpa using h0) (by simp; omega)
    rw [e]
    refine ⟨l', rfl, hs_cut (x' := (n, d, 0)) h rfl rfl k1 ?_⟩
    have : (l.set 0 (n, d, 0)).getD 0 qz = (n, d, 0) := by rw [getD_set h0, if_pos rfl]
    rw [this] at k2
    exact k2
  · have hp : (if r < c then r else c) = c := by split <;> omega
    rw [hp, if_neg hle, if_neg hle, wsi (n := r - c) (by omega), wsi (n := c - c) (by omega), bif_f (show ((r - c) == 0) = false from by simp; omega), show c - c = 0 from by omega]
    exact ⟨_, rfl, hs_set h rfl rfl⟩
theorem settle_loop {ps : List Int} : ∀ (S : List Qe) (l : List Qe) (c : Int), HS l S → (∀ x ∈ S, 0 < x.2.2 ∧ x.2.2 ≤ 1000000000000000000) → c ≤ 1000000000000000000 → l.length ≤ 1000000 → ∃ l', itr R22_0 (S.length + 2) ((l, c, ps, ()), ()) = some ((l', (settleS S c).2, ps, ()), ()) ∧ HS l' (settleS S c).1
  | [], l, c, h, _, _, _ => by
    have : l = [] := List.eq_nil_of_length_eq_zero (by simpa using h.perm.length_eq)
    subst this
    exact ⟨[], itr_out s_none, h⟩
  | x :: S, l, c, h, hr, hc, hl => by
    unfold settleS
    by_cases h0 : c ≤ 0
    · rw [if_pos h0]
      exact ⟨l, itr_out (s_stop h0), h⟩
    · rw [if_neg h0]
      have hx := hr x (by simp)
      obtain ⟨l', e, k⟩ := s_some (ps := ps) h (by omega) hx.1 hc hx.2 hl
      have hll : l.length = S.length + 1 := by simpa using h.perm.length_eq
      by_cases hle : x.2.2 ≤ c
      · rw [if_pos hle] at e k ⊢
        have hl' : l'.length = S.length := k.perm.length_eq
        obtain ⟨l2, e2, k2⟩ := settle_loop S l' (c - x.2.2) k (fun y hy => hr y (by simp [hy])) (by omega) (by omega)
        exact ⟨l2, (itr_in e).trans e2, k2⟩
      · rw [if_neg hle] at e k ⊢
        exact ⟨l', (itr_in e).trans (itr_out (s_stop (by omega))), k⟩
theorem settle_ok {S l : List Qe} {c : Int} {ps : List Int} (h : HS l S) (hr : ∀ x ∈ S, 0 < x.2.2 ∧ x.2.2 ≤ 1000000000000000000) (hc : c ≤ 1000000000000000000) (hl : l.length ≤ 1000000) : ∃ l', N22 ((l, c, ps, ()), ()) = some ((l', (settleS S c).2, ps, ()), ()) ∧ HS l' (settleS S c).1 := by
  obtain ⟨l', e, k⟩ := settle_loop (ps := ps) S l c h hr hc hl
  have hll := h.perm.length_eq
  refine ⟨l', ?_, k⟩
  unfold N22 M22
  simp only []
  rw [itrs_of e (by omega)]
  rfl
end Go.Proofs.Ytkbhbiceojmnaaa.E
/-
  An account's invariant. No condition but its bounds.
-/
namespace Go.Proofs.Ytkbhbiceojmnaaa.E
open Go
set_option linter.unusedVariables false
set_option linter.unusedSimpArgs false
set_option maxRecDepth 100000
/-! ### is a number among those posted? -/
theorem idx_loop {s : List Int} {v : Int} (hs : s.length ≤ 1000000) : ∀ (m j : Nat), j + m = s.length → ∃ y, itr R35_0 (m + 1) (s, v, (s.length : Int), (j : Int), ()) = some y ∧ ((v ∈ s.drop j ∧ ∃ i : Int, 0 ≤ i ∧ y = .inr (i, ())) ∨ (v ∉ s.drop j ∧ y = .inl ()))
  | 0, j, h => by
    refine ⟨.inl (), itr_out ?_, .inr ⟨by rw [List.drop_eq_nil_of_le (by omega)]; simp, rfl⟩⟩
    unfold R35_0 Q35_0
    simp only []
    rw [bif_f (decide_eq_false (by omega))]
  | m + 1, j, h => by
    have hj : j < s.length := by omega
    by_cases e : v = s[j]
    · refine ⟨.inr ((j : Int), ()), itr_out ?_, .inl ⟨by rw [e, List.drop_eq_getElem_cons hj]; exact List.mem_cons_self, _, by omega, rfl⟩⟩
      unfold R35_0 Q35_0
      simp only []
      rw [bif_t (decide_eq_true (by omega)), bif_t (decide_eq_true (by omega)), Int.toNat_natCast, List.getElem?_eq_getElem hj]
      simp only [Option.bind_some]
      rw [bif_t (by rw [e]; simp)]
    · obtain ⟨y, e1, e2⟩ := idx_loop hs m (j + 1) (by omega)
      refine ⟨y, (itr_in ?_).trans e1, ?_⟩
      · unfold R35_0 Q35_0
        simp only []
        rw [bif_t (decide_eq_true (by omega)), bif_t (decide_eq_true (by omega)), Int.toNat_natCast, List.getElem?_eq_getElem hj]
        simp only [Option.bind_some]
        rw [bif_f (by simpa using e), wsi (by omega)]
        rfl
      · rw [List.drop_eq_getElem_cons hj]
        simp only [List.mem_cons, e, false_or]
        exact e2
theorem contains_ok {s : List Int} {v : Int} (hs : s.length ≤ 1000000) : N25 (s, v, ()) = some (decide (v ∈ s), ()) := by
  obtain ⟨y, e1, e2⟩ := idx_loop (v := v) hs s.length 0 (by omega)
  have e1 := itrs_of e1 (by omega)
  rw [List.drop_zero] at e2
  unfold N25 M25 N35 M35
  simp only []
  rw [show ((0 : Nat) : Int) = 0 from rfl] at e1
  rw [e1]
  rcases e2 with ⟨h1, i, h2, rfl⟩ | ⟨h1, rfl⟩
  · simp only [Option.bind_some]
    rw [decide_eq_true h1, decide_eq_true h2]
  · simp only [Option.bind_some]
    rw [decide_eq_false h1]
    rfl
/-! ### a bill laid at its place -/
def insS (x : Qe) : List Qe → List Qe
  | [] => [x]
  | y :: S => if qlt y x then y :: insS x S else x :: y :: S
theorem insS_perm (x : Qe) : ∀ S : List Qe, (insS x S).Perm (x :: S)
  | [] => .refl _
  | y :: S => by
    unfold insS
    split
    · exact ((insS_perm x S).cons y).trans (.swap _ _ _)
    · exact .refl _
theorem insS_ris (x : Qe) : ∀ {S : List Qe}, Ris S → (∀ y ∈ S, y.1 ≠ x.1) → Ris (insS x S)
  | [], _, _ => by simp [insS, Ris]
  | y :: S, h, hn => by
    obtain ⟨h1, h2⟩ := List.pairwise_cons.1 h
    unfold insS
    split
    · rename_i hy
      refine List.pairwise_cons.2 ⟨fun b hb => ?_, insS_ris x h2 fun z hz => hn z (by simp [hz])⟩
      rcases List.mem_cons.1 ((insS_perm x S).mem_iff.1 hb) with rfl | hb
      · exact hy
      · exact h1 b hb
    · rename_i hy
      have hxy : qlt x y = true := by
        cases hc : qlt x y with
        | true => rfl
        | false => exact absurd (q_tri x y hc (by simpa using hy)).2.symm (hn y (by simp))
      refine List.pairwise_cons.2 ⟨fun b hb => ?_, h⟩
      rcases List.mem_cons.1 hb with rfl | hb
      · exact hxy
      · exact qswo.trans _ _ _ hxy (h1 b hb)
/-! ### what is left -/
def sumS : List Qe → Int
  | [] => 0
  | x :: S => x.2.2 + sumS S
theorem sumS_perm {S S' : List Qe} (h : S.Perm S') : sumS S = sumS S' := by
  induction h with
  | nil => rfl
  | cons x _ ih => simp [sumS, ih]
  | swap x y l => simp only [sumS]; omega
  | trans _ _ h1 h2 => rw [h1, h2]
structure Fine (S : List Qe) (c : Int) (ps : List Int) : Prop where
  pos : ∀ x ∈ S, 0 < x.2.2 ∧ x.2.2 ≤ 1000000000000000
  num : ∀ x ∈ S, x.1 ∈ ps
  nod : (S.map (·.1)).Nodup
  ris : Ris S
  cr : 0 ≤ c
theorem settle_fine {ps : List Int} : ∀ {S : List Qe} {c : Int}, Fine S c ps → Fine (settleS S c).1 (settleS S c).2 ps ∧ (settleS S c).2 ≤ c ∧ ((settleS S c).1 ≠ [] → (settleS S c).2 = 0) ∧ sumS (settleS S c).1 - (settleS S c).2 = sumS S - c ∧ (settleS S c).1.length ≤ S.length
  | [], c, h => ⟨h, by simp [settleS], fun k => absurd rfl k, rfl, Nat.le_refl _⟩
  | x :: S, c, h => by
    unfold settleS
    have hx := h.pos x (by simp)
    have hnod := h.nod
    simp only [List.map_cons, List.nodup_cons] at hnod
    by_cases h0 : c ≤ 0
    · rw [if_pos h0]
      have := h.cr
      exact ⟨h, Int.le_refl _, fun _ => by show c = 0; omega, rfl, Nat.le_refl _⟩
    · rw [if_neg h0]
      by_cases hle : x.2.2 ≤ c
      · rw [if_pos hle]
        have hF : Fine S (c - x.2.2) ps := ⟨fun y hy => h.pos y (by simp [hy]), fun y hy => h.num y (by simp [hy]), hnod.2, (List.pairwise_cons.1 h.ris).2, by omega⟩
        obtain ⟨k1, k2, k3, k4, k5⟩ := settle_fine hF
        exact ⟨k1, by omega, k3, by simp only [sumS]; omega, by simp; omega⟩
      · rw [if_neg hle]
        obtain ⟨r1, r2⟩ := List.pairwise_cons.1 h.ris
        refine ⟨⟨fun y hy => ?_, fun y hy => ?_, h.nod, List.pairwise_cons.2 ⟨fun b hb => by rw [qlt_key (a := (x.1, x.2.1, x.2.2 - c)) (a' := x) rfl rfl rfl rfl]; exact r1 b hb, r2⟩, by simp⟩, by show (0 : Int) ≤ c; omega, fun _ => rfl, by simp only [sumS]; omega, by simp⟩
        · rcases List.mem_cons.1 hy with rfl | hy
          · exact ⟨by show 0 < x.2.2 - c; omega, by show x.2.2 - c ≤ _; omega⟩
          · exact h.pos y (by simp [hy])
        · rcases List.mem_cons.1 hy with rfl | hy
          · exact h.num x (by simp)
          · exact h.num y (by simp [hy])
end Go.Proofs.Ytkbhbiceojmnaaa.E
/-
  What Post and Pay do to an account. No condition but its bounds.
-/
namespace Go.Proofs.Ytkbhbiceojmnaaa.E
open Go
set_option linter.unusedVariables false
set_option linter.unusedSimpArgs false
set_option maxRecDepth 100000
/-- An account within k steps; S: its open bills in their order. -/
structure AI (k : Nat) (a : Acc) (S : List Qe) : Prop where
  hs : HS a.1 S
  fine : Fine S a.2.1 a.2.2
  zero : S ≠ [] → a.2.1 = 0
  crb : a.2.1 ≤ (k : Int) * 1000000000000000
  len : a.2.2.length ≤ k
theorem AI.more {k k' : Nat} {a : Acc} {S : List Qe} (h : AI k a S) (hk : k ≤ k') : AI k' a S := ⟨h.hs, h.fine, h.zero, by have := h.crb; omega, Nat.le_trans h.len hk⟩
theorem AI.slen {k : Nat} {a : Acc} {S : List Qe} (h : AI k a S) : S.length ≤ k ∧ a.1.length = S.length := by
  have h1 := nodup_len h.fine.nod (l2 := a.2.2) fun n hn => by
    obtain ⟨x, hx, rfl⟩ := List.mem_map.1 hn
    exact h.fine.num x hx
  rw [List.length_map] at h1
  exact ⟨Nat.le_trans h1 h.len, h.hs.perm.length_eq⟩
theorem pos18 {S : List Qe} (h : ∀ x ∈ S, 0 < x.2.2 ∧ x.2.2 ≤ 1000000000000000) : ∀ x ∈ S, 0 < x.2.2 ∧ x.2.2 ≤ 1000000000000000000 := fun x hx => by have := h x hx; omega
/-- A bill. -/
theorem acc_bill {k : Nat} {l : List Qe} {c : Int} {ps : List Int} {S : List Qe} {num day amt : Int} (h : AI k (l, c, ps) S) (hk : k ≤ 900) (hn : num ∉ ps) (h1 : 0 < amt) (h2 : amt ≤ 1000000000000000) :
    ∃ l1 l2, N26 ((l, c, ps ++ [num], ()), (num, day, amt), ()) = some ((l1, c, ps ++ [num], ()), ()) ∧ N22 ((l1, c, ps ++ [num], ()), ()) = some ((l2, (settleS (insS (num, day, amt) S) c).2, ps ++ [num], ()), ()) ∧ AI (k + 1) (l2, (settleS (insS (num, day, amt) S) c).2, ps ++ [num]) (settleS (insS (num, day, amt) S) c).1 := by
  obtain ⟨s1, s2⟩ := h.slen
  have s2 : l.length = S.length := s2
  have hnS : ∀ y ∈ S, y.1 ≠ num := fun y hy e => hn (e ▸ h.fine.num y hy)
  obtain ⟨l1, e1, k1, k2, k3⟩ := qPush c (ps ++ [num]) (x := (num, day, amt)) h.hs.heap (by omega)
  have hS1 : HS l1 (insS (num, day, amt) S) := ⟨k1, k2.trans ((h.hs.perm.append_right _).trans (List.perm_append_comm.trans (insS_perm _ _).symm)), insS_ris _ h.hs.ris hnS⟩
  have hmem : ∀ y, y ∈ insS (num, day, amt) S → y = (num, day, amt) ∨ y ∈ S := fun y hy => List.mem_cons.1 ((insS_perm _ _).mem_iff.1 hy)
  have hF : Fine (insS (num, day, amt) S) c (ps ++ [num]) := by
    refine ⟨fun y hy => ?_, fun y hy => ?_, ?_, hS1.ris, h.fine.cr⟩
    · rcases hmem y hy with rfl | hy
      · exact ⟨h1, h2⟩
      · exact h.fine.pos y hy
    · rcases hmem y hy with rfl | hy
      · simp
      · exact List.mem_append_left _ (h.fine.num y hy)
    · rw [((insS_perm (num, day, amt) S).map (·.1)).nodup_iff, List.map_cons, List.nodup_cons]
      refine ⟨fun hm => ?_, h.fine.nod⟩
      obtain ⟨y, hy, e⟩ := List.mem_map.1 hm
      exact hnS y hy e
  have hcb := h.crb
  simp only at hcb
  obtain ⟨l2, e2, k4⟩ := settle_ok (ps := ps ++ [num]) hS1 (pos18 hF.pos) (c := c) (by omega) (by omega)
  obtain ⟨f1, f2, f3, f4, f5⟩ := settle_fine hF
  refine ⟨l1, l2, e1, e2, k4, f1, f3, by show _ ≤ ((k + 1 : Nat) : Int) * _; simp only; omega, ?_⟩
  have := h.len
  simp only at this ⊢
  simp
  omega
/-- A credit. -/
theorem acc_credit {k : Nat} {l : List Qe} {c : Int} {ps : List Int} {S : List Qe} {amt : Int} {ps' : List Int} (h : AI k (l, c, ps) S) (hk : k ≤ 900) (hsub : ∀ x ∈ ps, x ∈ ps') (hlen : ps'.length ≤ k + 1) (h1 : 0 ≤ amt) (h2 : amt ≤ 1000000000000000) :
    ∃ l2, N22 ((l, c + amt, ps', ()), ()) = some ((l2, (settleS S (c + amt)).2, ps', ()), ()) ∧ AI (k + 1) (l2, (settleS S (c + amt)).2, ps') (settleS S (c + amt)).1 := by
  obtain ⟨s1, s2⟩ := h.slen
  have s2 : l.length = S.length := s2
  have hc0 := h.fine.cr
  have hcb := h.crb
  simp only at hcb hc0
  have hF : Fine S (c + amt) ps' := ⟨h.fine.pos, fun x hx => hsub _ (h.fine.num x hx), h.fine.nod, h.fine.ris, by omega⟩
  obtain ⟨l2, e2, k4⟩ := settle_ok (ps := ps') h.hs (pos18 hF.pos) (c := c + amt) (by omega) (by omega)
  obtain ⟨f1, f2, f3, f4, f5⟩ := settle_fine hF
  exact ⟨l2, e2, k4, f1, f3, by show _ ≤ ((k + 1 : Nat) : Int) * _; simp only; omega, hlen⟩
end Go.Proofs.Ytkbhbiceojmnaaa.E
/-
  What Post and Pay do to a ledger. No condition but its bounds.
-/
namespace Go.Proofs.Ytkbhbiceojmnaaa.E
open Go
set_option linter.unusedVariables false
set_option linter.unusedSimpArgs false
set_option maxRecDepth 100000
def acct (k : ByteArray) : MapL → Option Acc
  | [] => none
  | x :: M => if x.1 = k then some x.2 else acct k M
theorem tl_iff (x k : ByteArray) : (ByteArray.toList x == ByteArray.toList k) = decide (x = k) := by
  by_cases h : x = k
  · rw [h]; simp
  · rw [decide_eq_false h, ← Bool.not_eq_true]
    exact fun e => h (strInj e)
theorem findM_acct {k : ByteArray} : ∀ {M : MapL}, (findM k M).map (·.2.1) = acct k M
  | [] => rfl
  | x :: M => by
    simp only [findM, acct, tl_iff]
    by_cases h : x.1 = k
    · rw [decide_eq_true h, if_pos h]; rfl
    · rw [decide_eq_false h, if_neg h, ← findM_acct (M := M), cond_false]
      cases findM k M <;> rfl
theorem acct_app {k : ByteArray} {M2 : MapL} : ∀ {M1 : MapL}, acct k (M1 ++ M2) = match acct k M1 with | some a => some a | none => acct k M2
  | [] => rfl
  | x :: M1 => by
    simp only [List.cons_append, acct]
    split
    · rfl
    · exact acct_app
theorem findM_before {k : ByteArray} : ∀ {M : MapL} {y : MapL × Acc × MapL}, findM k M = some y → acct k y.1 = none
  | [], y, h => by cases h
  | x :: M, y, h => by
    simp only [findM, tl_iff] at h
    by_cases hc : x.1 = k
    · rw [decide_eq_true hc, cond_true] at h
      injection h with h
      subst h
      rfl
    · rw [decide_eq_false hc, cond_false] at h
      split at h
      · rename_i z hz
        injection h with h
        subst h
        show acct k (x :: z.1) = none
        rw [acct, if_neg hc]
        exact findM_before hz
      · cases h
theorem acct_join {M M1 M2 : MapL} {k : ByteArray} {a a' : Acc} (h : findM k M = some (M1, a, M2)) (nm : ByteArray) : acct nm (joinL M1 M2 k (some a')) = if nm = k then some a' else acct nm M := by
  rw [findM_some h]
  have hb := findM_before h
  show acct nm (M1 ++ (k, a') :: M2) = if nm = k then some a' else acct nm (M1 ++ (k, a) :: M2)
  rw [acct_app, acct_app]
  by_cases e : nm = k
  · subst e
    rw [if_pos rfl, hb]
    simp [acct]
  · rw [if_neg e]
    have e' : ¬ k = nm := fun h => e h.symm
    simp only [acct, if_neg e']
theorem acct_add {M : MapL} {k : ByteArray} {a' : Acc} (h : findM k M = none) (nm : ByteArray) : acct nm (joinL (M ++ []) [] k (some a')) = if nm = k then some a' else acct nm M := by
  have hk : acct k M = none := by rw [← findM_acct, h]; rfl
  show acct nm ((M ++ []) ++ [(k, a')]) = _
  rw [List.append_nil, acct_app]
  by_cases e : nm = k
  · subst e
    rw [if_pos rfl, hk]
    simp [acct]
  · rw [if_neg e]
    have e' : ¬ k = nm := fun h => e h.symm
    simp only [acct, if_neg e']
    cases acct nm M <;> rfl
/-- A ledger within k steps. -/
structure LI (k : Nat) (x : TL) : Prop where
  acc : ∀ e ∈ x.1, ∃ S, AI k e.2 S
  len : x.1.length ≤ k
  n0 : 0 ≤ x.2
  n1 : x.2 ≤ k
theorem LI.more {k : Nat} {x : TL} (h : LI k x) : LI (k + 1) x := ⟨fun e he => by obtain ⟨S, hS⟩ := h.acc e he; exact ⟨S, hS.more (by omega)⟩, by have := h.len; omega, h.n0, by have := h.n1; omega⟩
/-- What was there ahead: S: the bills in their order; c: the credit; ps: the numbers posted. -/
def Old (k : Nat) (o : Option Acc) (S : List Qe) (c : Int) (ps : List Int) : Prop :=
  match o with
  | none => S = [] ∧ c = 0 ∧ ps = []
  | some a => AI k a S ∧ c = a.2.1 ∧ ps = a.2.2
theorem AI.nil (k : Nat) : AI k ([], 0, []) [] := ⟨⟨(fun c h1 h2 => by simp at h2), .refl _, .nil⟩, ⟨(fun x hx => by cases hx), (fun x hx => by cases hx), .nil, .nil, Int.le_refl _⟩, fun h => absurd rfl h, by simp; omega, by simp⟩
def postS (S : List Qe) (c num day amt : Int) : List Qe × Int := if amt > 0 then settleS (insS (num, day, amt) S) c else settleS S (c - amt)
structure Posted (k : Nat) (x x' : TL) (name : ByteArray) (num day amt e : Int) : Prop where
  li : LI (k + 1) x'
  out : (e ≠ 0 ∧ x' = x) ∨ (e = 0 ∧ -1000000000000000 ≤ amt ∧ amt ≤ 1000000000000000 ∧ ∃ a' S' S c ps, Old k (acct name x.1) S c ps ∧ AI (k + 1) a' S' ∧ (S', a'.2.1) = postS S c num day amt ∧ a'.2.2 = ps ++ [num] ∧ ∀ nm, acct nm x'.1 = if nm = name then some a' else acct nm x.1)
theorem li_join {k : Nat} {M M1 M2 : MapL} {n n' : Int} {name : ByteArray} {a a' : Acc} {S' : List Qe} (h : LI k (M, n)) (hf : findM name M = some (M1, a, M2)) (ha : AI (k + 1) a' S') (h0 : 0 ≤ n') (h1 : n' ≤ k + 1) : LI (k + 1) (joinL M1 M2 name (some a'), n') := by
  have hM := findM_some hf
  simp only at hM
  subst hM
  refine ⟨fun e he => ?_, ?_, h0, by push_cast; exact h1⟩
  · have he : e ∈ M1 ++ (name, a') :: M2 := he
    rcases List.mem_append.1 he with he | he
    · obtain ⟨S, hS⟩ := h.acc e (List.mem_append_left _ he)
      exact ⟨S, hS.more (by omega)⟩
    · rcases List.mem_cons.1 he with rfl | he
      · exact ⟨S', ha⟩
      · obtain ⟨S, hS⟩ := h.acc e (List.mem_append_right _ (List.mem_cons_of_mem _ he))
        exact ⟨S, hS.more (by omega)⟩
  · have := h.len
    simp only [List.length_append, List.length_cons] at this
    show (M1 ++ (name, a') :: M2).length ≤ k + 1
    simp only [List.length_append, List.length_cons]
    omega
theorem li_add {k : Nat} {M : MapL} {n n' : Int} {name : ByteArray} {a' : Acc} {S' : List Qe} (h : LI k (M, n)) (ha : AI (k + 1) a' S') (h0 : 0 ≤ n') (h1 : n' ≤ k + 1) : LI (k + 1) (joinL (M ++ []) [] name (some a'), n') := by
  refine ⟨fun e he => ?_, ?_, h0, by push_cast; exact h1⟩
  · have he : e ∈ (M ++ []) ++ [(name, a')] := he
    rw [List.append_nil] at he
    rcases List.mem_append.1 he with he | he
    · obtain ⟨S, hS⟩ := h.acc e he
      exact ⟨S, hS.more (by omega)⟩
    · rw [List.mem_singleton.1 he]
      exact ⟨S', ha⟩
  · have := h.len
    show ((M ++ []) ++ [(name, a')]).length ≤ k + 1
    simp only [List.append_nil, List.length_append, List.length_singleton] at this ⊢
    omega
end Go.Proofs.Ytkbhbiceojmnaaa.E
/-
  Post, told whole. No condition but its bounds.
-/
namespace Go.Proofs.Ytkbhbiceojmnaaa.E
open Go
set_option linter.unusedVariables false
set_option linter.unusedSimpArgs false
set_option maxRecDepth 100000
theorem same_t (k : ByteArray) {α : Type} (x : Option α) : ((bif ByteArray.toList k == ByteArray.toList k then some () else none).bind fun () => x) = x := by
  rw [bif_t (by simp)]
  rfl
theorem postA_ok {k : Nat} {M : MapL} {n : Int} {name : ByteArray} {num day amt : Int} (h : LI k (M, n)) (hk : k ≤ 900) (hf : findM name M = none) : ∃ e x', res1 (NPostA (M, name, n, num, day, amt)) = some (e, x', ()) ∧ Posted k (M, n) x' name num day amt e := by
  have err : ∀ (e : Int), e ≠ 0 → ∃ e' x', res1 (some ([e], (M, [], name, none, n))) = some (e', x', ()) ∧ Posted k (M, n) x' name num day amt e' := fun e he => ⟨e, (M, n), by
    show some (e, ((M ++ [], n) : TL), ()) = _
    rw [List.append_nil], h.more, .inl ⟨he, rfl⟩⟩
  have hn1 := h.n1
  have hn0 := h.n0
  simp only at hn0 hn1
  unfold NPostA MPostA
  simp only [same_t]
  by_cases c1 : (name.size : Int) < 1
  · rw [bif_t (decide_eq_true c1)]; exact err 250 (by decide)
  rw [bif_f (decide_eq_false c1)]
  by_cases c2 : (name.size : Int) > 32
  · rw [bif_t (decide_eq_true c2)]; exact err 250 (by decide)
  rw [bif_f (decide_eq_false c2)]
  by_cases c3 : num < 1
  · rw [bif_t (decide_eq_true c3)]; exact err 1 (by decide)
  rw [bif_f (decide_eq_false c3)]
  by_cases c4 : day < 0
  · rw [bif_t (decide_eq_true c4)]; exact err 221 (by decide)
  rw [bif_f (decide_eq_false c4)]
  by_cases c5 : day > 1000000
  · rw [bif_t (decide_eq_true c5)]; exact err 221 (by decide)
  rw [bif_f (decide_eq_false c5)]
  by_cases c6 : amt < -1000000000000000
  · rw [bif_t (decide_eq_true c6)]; exact err 260 (by decide)
  rw [bif_f (decide_eq_false c6)]
  by_cases c7 : amt > 1000000000000000
  · rw [bif_t (decide_eq_true c7)]; exact err 260 (by decide)
  rw [bif_f (decide_eq_false c7), bif_f (decide_eq_false (show ¬ n ≥ 4096 by omega))]
  have hold : Old k (acct name M) [] 0 [] := by
    rw [show acct name M = none from by rw [← findM_acct, hf]; rfl]
    exact ⟨rfl, rfl, rfl⟩
  by_cases c8 : amt > 0
  · rw [bif_t (decide_eq_true c8)]
    obtain ⟨l1, l2, e1, e2, e3⟩ := acc_bill (day := day) (amt := amt) (num := num) (AI.nil k) hk (by simp) c8 (by omega)
    rw [List.nil_append] at e1 e2 e3
    rw [e1]
    simp only [Option.bind_some]
    rw [e2]
    simp only [Option.bind_some]
    rw [wsi (n := n + 1) (by omega)]
    refine ⟨0, _, rfl, li_add (n' := n + 1) h e3 (by omega) (by omega), .inr ⟨rfl, by omega, by omega, _, _, [], 0, [], hold, e3, by unfold postS; rw [if_pos c8], rfl, fun nm => acct_add hf nm⟩⟩
  · rw [bif_f (decide_eq_false c8)]
    obtain ⟨l2, e2, e3⟩ := acc_credit (ps' := [num]) (amt := -amt) (AI.nil k) hk (by simp) (by simp) (by omega) (by omega)
    rw [wsi (n := 0 - amt) (by omega), show (0 : Int) - amt = 0 + -amt from by omega, e2]
    simp only [Option.bind_some]
    rw [wsi (n := n + 1) (by omega)]
    refine ⟨0, _, rfl, li_add (n' := n + 1) h e3 (by omega) (by omega), .inr ⟨rfl, by omega, by omega, _, _, [], 0, [], hold, e3, by unfold postS; rw [if_neg c8]; rfl, rfl, fun nm => acct_add hf nm⟩⟩
theorem postP_ok {k : Nat} {M M1 M2 : MapL} {n : Int} {name : ByteArray} {a : Acc} {num day amt : Int} (h : LI k (M, n)) (hk : k ≤ 900) (hf : findM name M = some (M1, a, M2)) : ∃ e x', res1 (NPostP (M1, M2, name, a, n, num, day, amt)) = some (e, x', ()) ∧ Posted k (M, n) x' name num day amt e := by
  have hM := findM_some hf
  simp only at hM
  have ha : acct name M = some a := by rw [← findM_acct, hf]; rfl
  obtain ⟨S, hS⟩ := h.acc (name, a) (by rw [hM]; simp)
  have hS : AI k a S := hS
  obtain ⟨l, c, ps⟩ := a
  have err : ∀ (e : Int), e ≠ 0 → ∃ e' x', res1 (some ([e], (M1, M2, name, some (l, c, ps), n))) = some (e', x', ()) ∧ Posted k (M, n) x' name num day amt e' := fun e he => ⟨e, (M, n), by
    show some (e, ((M1 ++ (name, (l, c, ps)) :: M2, n) : TL), ()) = _
    rw [← hM], h.more, .inl ⟨he, rfl⟩⟩
  have hn1 := h.n1
  have hn0 := h.n0
  have hlen := hS.len
  have hcr := hS.fine.cr
  have hcb := hS.crb
  simp only at hn0 hn1 hlen hcr hcb
  unfold NPostP MPostP
  simp only [same_t]
  by_cases c1 : (name.size : Int) < 1
  · rw [bif_t (decide_eq_true c1)]; exact err 250 (by decide)
  rw [bif_f (decide_eq_false c1)]
  by_cases c2 : (name.size : Int) > 32
  · rw [bif_t (decide_eq_true c2)]; exact err 250 (by decide)
  rw [bif_f (decide_eq_false c2)]
  by_cases c3 : num < 1
  · rw [bif_t (decide_eq_true c3)]; exact err 1 (by decide)
  rw [bif_f (decide_eq_false c3), contains_ok (by omega)]
  simp only [Option.bind_some]
  by_cases cn : num ∈ ps
  · rw [bif_t (decide_eq_true cn)]; exact err 1 (by decide)
  rw [bif_f (decide_eq_false cn)]
  by_cases c4 : day < 0
  · rw [bif_t (decide_eq_true c4)]; exact err 221 (by decide)
  rw [bif_f (decide_eq_false c4)]
  by_cases c5 : day > 1000000
  · rw [bif_t (decide_eq_true c5)]; exact err 221 (by decide)
  rw [bif_f (decide_eq_false c5)]
  by_cases c6 : amt < -1000000000000000
  · rw [bif_t (decide_eq_true c6)]; exact err 260 (by decide)
  rw [bif_f (decide_eq_false c6)]
  by_cases c7 : amt > 1000000000000000
  · rw [bif_t (decide_eq_true c7)]; exact err 260 (by decide)
  rw [bif_f (decide_eq_false c7), bif_f (decide_eq_false (show ¬ n ≥ 4096 by omega)), bif_t (decide_eq_true (show (ps.length + 1) * 8 ≤ 210000000000000 by omega))]
  simp only [Option.bind_some]
  have hold : Old k (acct name M) S c ps := by
    rw [ha]
    exact ⟨hS, rfl, rfl⟩
  by_cases c8 : amt > 0
  · rw [bif_t (decide_eq_true c8)]
    obtain ⟨l1, l2, e1, e2, e3⟩ := acc_bill (day := day) (amt := amt) (num := num) hS hk cn c8 (by omega)
    rw [e1]
    simp only [Option.bind_some]
    rw [e2]
    simp only [Option.bind_some]
    rw [wsi (n := n + 1) (by omega)]
    refine ⟨0, _, rfl, li_join (n' := n + 1) h hf e3 (by omega) (by omega), .inr ⟨rfl, by omega, by omega, _, _, S, c, ps, hold, e3, by unfold postS; rw [if_pos c8], rfl, fun nm => acct_join hf nm⟩⟩
  · rw [bif_f (decide_eq_false c8)]
    obtain ⟨l2, e2, e3⟩ := acc_credit (ps' := ps ++ [num]) (amt := -amt) hS hk (fun x hx => List.mem_append_left _ hx) (by simp; omega) (by omega) (by omega)
    rw [wsi (n := c - amt) (by omega), show c - amt = c + -amt from by omega, e2]
    simp only [Option.bind_some]
    rw [wsi (n := n + 1) (by omega)]
    refine ⟨0, _, rfl, li_join (n' := n + 1) h hf e3 (by omega) (by omega), .inr ⟨rfl, by omega, by omega, _, _, S, c, ps, hold, e3, by unfold postS; rw [if_neg c8]; rfl, rfl, fun nm => acct_join hf nm⟩⟩
theorem post_ok {k : Nat} {x : TL} (name : ByteArray) (num day amt : Int) (h : LI k x) (hk : k ≤ 900) : ∃ e x', fPost (x, name, num, day, amt, ()) = some (e, x', ()) ∧ Posted k x x' name num day amt e := by
  obtain ⟨M, n⟩ := x
  unfold fPost runPost
  simp only
  cases hf : findM name M with
  | none => exact postA_ok h hk hf
  | some y =>
    obtain ⟨M1, a, M2⟩ := y
    exact postP_ok h hk hf
end Go.Proofs.Ytkbhbiceojmnaaa.E
/-
  Balance and Pay, told whole. No condition but their bounds.
-/
namespace Go.Proofs.Ytkbhbiceojmnaaa.E
open Go
set_option linter.unusedVariables false
set_option linter.unusedSimpArgs false
set_option maxRecDepth 100000
theorem sumS_pos : ∀ {S : List Qe}, (∀ x ∈ S, 0 < x.2.2 ∧ x.2.2 ≤ 1000000000000000) → 0 ≤ sumS S ∧ sumS S ≤ (S.length : Int) * 1000000000000000
  | [], _ => by simp [sumS]
  | x :: S, h => by
    have h1 := h x (by simp)
    have h2 := sumS_pos (S := S) fun y hy => h y (by simp [hy])
    simp only [sumS, List.length_cons]
    omega
theorem bal_loop {K : ByteArray × Acc} {l : List Qe} (hp : ∀ x ∈ l, 0 < x.2.2 ∧ x.2.2 ≤ 1000000000000000) (hl : l.length ≤ 1000) : ∀ (m j : Nat) (s : Int), j + m = l.length → -1000000000000000000 ≤ s → s + sumS (l.drop j) ≤ 1000000000000000000 → itr R13_0 (m + 1) (K, s, l, (l.length : Int), (j : Int), ()) = some (K, s + sumS (l.drop j), ())
  | 0, j, s, h, h1, h2 => by
    rw [List.drop_eq_nil_of_le (by omega)] at h2 ⊢
    refine itr_out ?_
    unfold R13_0 Q13_0
    simp only []
    rw [bif_f (decide_eq_false (by omega)), sumS, Int.add_zero]
  | m + 1, j, s, h, h1, h2 => by
    have hj : j < l.length := by omega
    rw [List.drop_eq_getElem_cons hj] at h2 ⊢
    simp only [sumS] at h2 ⊢
    have hx := hp l[j] (List.getElem_mem hj)
    have hr := sumS_pos (S := l.drop (j + 1)) fun y hy => hp y (List.mem_of_mem_drop hy)
    have ih := bal_loop (K := K) hp hl m (j + 1) (s + l[j].2.2) (by omega) (by omega) (by omega)
    rw [Int.add_assoc] at ih
    refine (itr_in ?_).trans ih
    unfold R13_0 Q13_0
    simp only []
    rw [bif_t (decide_eq_true (by omega)), bif_t (decide_eq_true (by omega)), Int.toNat_natCast, List.getElem?_eq_getElem hj]
    simp only [Option.bind_some]
    rw [wsi (n := s + l[j].2.2) (by omega), wsi (n := (j : Int) + 1) (by omega)]
    rfl
theorem bal13 {k : Nat} {a : Acc} {S : List Qe} (h : AI k a S) (hk : k ≤ 901) (name : ByteArray) : N13 ((name, a), name, ()) = some (sumS S - a.2.1, (name, a), ()) := by
  obtain ⟨s1, s2⟩ := h.slen
  have hpl : ∀ x ∈ a.1, 0 < x.2.2 ∧ x.2.2 ≤ 1000000000000000 := fun x hx => h.fine.pos x (h.hs.perm.mem_iff.1 hx)
  have hs := sumS_pos hpl
  have hc0 := h.fine.cr
  have hcb := h.crb
  have hsum := sumS_perm h.hs.perm
  obtain ⟨l, c, ps⟩ := a
  simp only at s2 hs hc0 hcb hsum hpl
  have e := itrs_of (bal_loop (K := (name, l, c, ps)) hpl (by omega) l.length 0 (0 - c) (by omega) (by omega) (by rw [List.drop_zero]; omega)) (by omega)
  rw [List.drop_zero, show ((0 : Nat) : Int) = 0 from rfl] at e
  unfold N13 M13
  simp only [same_t]
  rw [wsi (n := 0 - c) (by omega), e]
  simp only [Option.bind_some]
  rw [hsum, show 0 - c + sumS S = sumS S - c from by omega]
/-- What an account owes. -/
def balV (o : Option Acc) : Int := match o with | none => 0 | some a => sumS a.1 - a.2.1
theorem li_acc {k : Nat} {M : MapL} {n : Int} {name : ByteArray} {a : Acc} (h : LI k (M, n)) (ha : acct name M = some a) : ∃ S, AI k a S := by
  rw [← findM_acct] at ha
  obtain ⟨y, hy, rfl⟩ := Option.map_eq_some_iff.1 ha
  have hM := findM_some hy
  exact h.acc (name, y.2.1) (by simp only; rw [hM]; simp)
theorem bal_ok {k : Nat} {x : TL} (name : ByteArray) (h : LI k x) (hk : k ≤ 901) : fBal (x, name, ()) = some (balV (acct name x.1), x, ()) := by
  obtain ⟨M, n⟩ := x
  unfold fBal
  simp only
  cases hf : findM name M with
  | none =>
    rw [show acct name M = none from by rw [← findM_acct, hf]; rfl]
    rfl
  | some y =>
    have ha : acct name M = some y.2.1 := by rw [← findM_acct, hf]; rfl
    obtain ⟨S, hS⟩ := li_acc h ha
    simp only
    rw [bal13 hS hk name, ha]
    simp only [balV]
    rw [sumS_perm hS.hs.perm]
structure Paid (k : Nat) (x x' : TL) (name : ByteArray) (amt r e : Int) : Prop where
  li : LI (k + 1) x'
  out : (acct name x.1 = none ∧ e = 250 ∧ r = 0 ∧ x' = x) ∨ ∃ a S, acct name x.1 = some a ∧ AI k a S ∧
    ((¬(1 ≤ amt ∧ amt ≤ 1000000000000000 ∧ amt - (sumS S - a.2.1) ≤ 1000000000000000) ∧ e = 260 ∧ r = 0 ∧ x' = x) ∨
     ((1 ≤ amt ∧ amt ≤ 1000000000000000 ∧ amt - (sumS S - a.2.1) ≤ 1000000000000000) ∧ e = 0 ∧ ∃ a' S', AI (k + 1) a' S' ∧ (S', a'.2.1) = settleS S (a.2.1 + amt) ∧ a'.2.2 = a.2.2 ∧ r = a'.2.1 ∧ ∀ nm, acct nm x'.1 = if nm = name then some a' else acct nm x.1))
theorem pay_ok {k : Nat} {x : TL} (name : ByteArray) (amt : Int) (h : LI k x) (hk : k ≤ 900) : ∃ r e x', fPay (x, name, amt, ()) = some (r, e, x', ()) ∧ Paid k x x' name amt r e := by
  obtain ⟨M, n⟩ := x
  unfold fPay runPay
  simp only
  cases hf : findM name M with
  | none =>
    simp only
    refine ⟨0, 250, (M, n), ?_, h.more, .inl ⟨by show acct name M = none; rw [← findM_acct, hf]; rfl, rfl, rfl, rfl⟩⟩
    unfold NPayA MPayA
    simp only [same_t]
    show some (0, 250, ((M ++ [], n) : TL), ()) = _
    rw [List.append_nil]
  | some y =>
    obtain ⟨M1, a, M2⟩ := y
    have ha : acct name M = some a := by rw [← findM_acct, hf]; rfl
    obtain ⟨S, hS⟩ := li_acc h ha
    have hM := findM_some hf
    simp only at hM
    have hb := bal13 hS (by omega) name
    obtain ⟨s1, s2⟩ := hS.slen
    have hs := sumS_pos hS.fine.pos
    have hc0 := hS.fine.cr
    have hcb := hS.crb
    have hlen := hS.len
    obtain ⟨l, c, ps⟩ := a
    simp only at hc0 hcb s2 hlen
    have err : ¬(1 ≤ amt ∧ amt ≤ 1000000000000000 ∧ amt - (sumS S - c) ≤ 1000000000000000) → ∃ r e x', res2 (some ([0, 260], (M1, M2, name, some (l, c, ps), n))) = some (r, e, x', ()) ∧ Paid k (M, n) x' name amt r e := fun hn => ⟨0, 260, (M, n), by
      show some (0, 260, ((M1 ++ (name, (l, c, ps)) :: M2, n) : TL), ()) = _
      rw [← hM], h.more, .inr ⟨_, S, ha, hS, .inl ⟨hn, rfl, rfl, rfl⟩⟩⟩
    simp only
    unfold NPayP MPayP
    simp only [same_t]
    by_cases c1 : amt < 1
    · rw [bif_t (decide_eq_true c1)]; exact err (by omega)
    rw [bif_f (decide_eq_false c1)]
    by_cases c2 : amt > 1000000000000000
    · rw [bif_t (decide_eq_true c2)]; exact err (by omega)
    rw [bif_f (decide_eq_false c2), bif_t (show (ByteArray.toList name == ByteArray.toList name) = true from by simp), hb]
    simp only [Option.bind_some]
    rw [wsi (n := amt - (sumS S - c)) (by omega)]
    by_cases c3 : amt - (sumS S - c) > 1000000000000000
    · rw [bif_t (decide_eq_true c3)]; exact err (by omega)
    rw [bif_f (decide_eq_false c3), wsi (n := c + amt) (by omega)]
    obtain ⟨l2, e2, e3⟩ := acc_credit (ps' := ps) (amt := amt) hS hk (fun x hx => hx) (by omega) (by omega) (by omega)
    rw [e2]
    simp only [Option.bind_some]
    have hn0 := h.n0
    have hn1 := h.n1
    simp only at hn0 hn1
    exact ⟨_, 0, _, rfl, li_join (n' := n) h hf e3 (by omega) (by omega), .inr ⟨_, S, ha, hS, .inr ⟨⟨by omega, by omega, by show amt - (sumS S - c) ≤ _; omega⟩, rfl, _, _, e3, rfl, rfl, rfl, fun nm => acct_join hf nm⟩⟩⟩
end Go.Proofs.Ytkbhbiceojmnaaa.E
/-
  Open and Owing, told whole; two ledgers kept alike. No condition but their bounds.
-/
namespace Go.Proofs.Ytkbhbiceojmnaaa.E
open Go Go.Sort Go.Shelf
set_option linter.unusedVariables false
set_option linter.unusedSimpArgs false
set_option maxRecDepth 100000
theorem clone26 {L : List Qe} (hL : L.length ≤ 1000000) : (cCloneG (e := 45) (F := N29) (τ := τ)).f (L, ()) = some (L, ()) := by
  show (bif L.isEmpty then some ([], ()) else N29 (L, ())) = _
  cases L with
  | nil => rfl
  | cons a l =>
    show N29 (a :: l, ()) = _
    unfold N29 M29
    simp only [List.isEmpty_cons, Bool.not_false, cond_true, Option.bind_some]
    rw [bif_t (decide_eq_true (by omega))]
    rfl
theorem sort26 {l S : List Qe} (h : HS l S) (hn : (S.map (·.1)).Nodup) : sortV cmpQ l = S := by
  unfold sortV
  rw [ltV]
  have htr : ∀ a b c : Qe, (!qlt b a) = true → (!qlt c b) = true → (!qlt c a) = true := fun a b c h1 h2 => by
    simp only [Bool.not_eq_true'] at h1 h2 ⊢
    exact qswo.ntrans c b a h2 h1
  have hto : ∀ a b : Qe, ((!qlt b a) || (!qlt a b)) = true := fun a b => by
    cases h1 : qlt b a with
    | false => rfl
    | true => simp [q_asym b a h1]
  refine List.Perm.eq_of_pairwise (le := fun x y => (!qlt y x) = true) ?_ (List.pairwise_mergeSort htr hto _) ?_ ((List.mergeSort_perm _ _).trans h.perm)
  · intro a b ha hb h1 h2
    simp only [Bool.not_eq_true'] at h1 h2
    have ha : a ∈ S := ((List.mergeSort_perm _ _).trans h.perm).mem_iff.1 ha
    exact (nodup_of_map _ hn).2 a ha b hb (q_tri a b h2 h1).2
  · refine h.ris.imp fun hab => ?_
    simp [q_asym _ _ hab]
theorem apart26 {l S : List Qe} (h : HS l S) (hn : (S.map (·.1)).Nodup) : apartQ l = true := by
  unfold apartQ
  simp only [List.all_eq_true]
  intro a ha b hb
  by_cases e : a.1 = b.1
  · have := (nodup_of_map _ hn).2 a (h.perm.mem_iff.1 ha) b (h.perm.mem_iff.1 hb) e
    simp [this]
  · simp [e]
theorem open_of {l S : List Qe} {c : Int} {ps : List Int} {name : ByteArray} {c1 : List Qe × Unit → Option (List Qe × Unit)} {c2 : List Qe × Unit × Unit → Option (List Qe × Unit)} {c3} (h1 : c1 (l, ()) = some (l, ())) (h2 : c2 (l, (), ()) = some (S, ())) : M16 c1 c2 c3 ((name, l, c, ps), name, ()) = some (S, (name, l, c, ps), ()) := by
  unfold M16
  simp only [same_t]
  rw [h1]
  simp only [Option.bind_some]
  rw [h2]
  rfl
theorem sortG26 {l S : List Qe} (h : HS l S) (hn : (S.map (·.1)).Nodup) (hl : l.length ≤ 1000000) : (cSortG (e := 45) (g := 31) (cf := cmpQ) (ok := apartQ) (τ := τ)).f (l, (), ()) = some (sortV cmpQ l, ()) := by
  show (bif decide (l.length ≤ 4611686018427387903) && apartQ l then some (sortV cmpQ l, ()) else none) = _
  rw [apart26 h hn, decide_eq_true (by omega)]
  rfl
def openV (o : Option Acc) : List Qe := match o with | none => [] | some a => sortV cmpQ a.1
theorem open_ok {k : Nat} {x : TL} (name : ByteArray) (h : LI k x) (hk : k ≤ 901) : fOpen (x, name, ()) = some (openV (acct name x.1), x, ()) := by
  obtain ⟨M, n⟩ := x
  unfold fOpen
  simp only
  cases hf : findM name M with
  | none =>
    rw [show acct name M = none from by rw [← findM_acct, hf]; rfl]
    rfl
  | some y =>
    have ha : acct name M = some y.2.1 := by rw [← findM_acct, hf]; rfl
    obtain ⟨S, hS⟩ := li_acc h ha
    obtain ⟨s1, s2⟩ := hS.slen
    rw [ha]
    obtain ⟨M1, ⟨l, c, ps⟩, M2⟩ := y
    simp only at s2 hS ⊢
    rw [show N16 ((name, l, c, ps), name, ()) = some (sortV cmpQ l, (name, l, c, ps), ()) from open_of (clone26 (by omega)) (sortG26 hS.hs hS.fine.nod (by omega))]
    rfl
def owingV (x : TL) (day : Int) : List ByteArray := sortB ((x.1.filter fun e => owes day e.2).map Prod.fst)
theorem owing_ok {k : Nat} {x : TL} (day : Int) (h : LI k x) (hk : k ≤ 901) : fOwing (x, day, ()) = some (owingV x day, x, ()) := by
  have := h.len
  unfold fOwing
  rw [bif_t (decide_eq_true (by simp only; omega))]
  rfl
theorem li_nil : LI 0 (([], 0) : TL) := ⟨(fun e he => by cases he), by simp, by simp, by simp⟩
theorem awake26 : N7 () = some (true, ()) := by
  kernel_rfl
end Go.Proofs.Ytkbhbiceojmnaaa.E
namespace Go.Proofs.Ytkbhbiceojmnaaa.E
open Go
set_option linter.unusedVariables false
set_option linter.unusedSimpArgs false
set_option maxRecDepth 100000
theorem at26 {α : Type} {l : List α} {j : Nat} (hj : j < l.length) : (bif decide ((0 : Int) ≤ (j : Int)) then l[Int.toNat (j : Int)]? else none) = some l[j] := by
  rw [bif_t (decide_eq_true (by omega)), Int.toNat_natCast, List.getElem?_eq_getElem hj]
theorem opens26 {L : List Qe} (hL : L.length ≤ 1000000) : N15 (L, L, ()) = some (true, ()) := by
  have lp : ∀ (m j : Nat), j + m = L.length → itr R15_0 (m + 1) (L, L, (j : Int), ()) = some (.inl ()) := by
    intro m
    induction m with
    | zero =>
      intro j h
      refine itr_out ?_
      unfold R15_0 Q15_0
      simp only []
      rw [bif_f (decide_eq_false (by omega))]
    | succ m ih =>
      intro j h
      refine (itr_in ?_).trans (ih (j + 1) (by omega))
      unfold R15_0 Q15_0
      simp only []
      rw [bif_t (decide_eq_true (by omega)), at26 (by omega)]
      simp only [Option.bind_some]
      rw [wsi (n := (j : Int) + 1) (by omega)]
      simp
  have e := itrs_of (lp L.length 0 (by omega)) (by omega)
  unfold N15 M15
  simp only [bne_self_eq_false, cond_false]
  rw [show (0 : Int) = ((0 : Nat) : Int) from rfl, e]
  rfl
theorem texts26 {L : List ByteArray} (hL : L.length ≤ 1000000) : N18 (L, L, ()) = some (true, ()) := by
  have lp : ∀ (m j : Nat), j + m = L.length → itr R18_0 (m + 1) (L, L, (j : Int), ()) = some (.inl ()) := by
    intro m
    induction m with
    | zero =>
      intro j h
      refine itr_out ?_
      unfold R18_0 Q18_0
      simp only []
      rw [bif_f (decide_eq_false (by omega))]
    | succ m ih =>
      intro j h
      refine (itr_in ?_).trans (ih (j + 1) (by omega))
      unfold R18_0 Q18_0
      simp only []
      rw [bif_t (decide_eq_true (by omega)), at26 (by omega)]
      simp only [Option.bind_some]
      rw [wsi (n := (j : Int) + 1) (by omega)]
      simp
  have e := itrs_of (lp L.length 0 (by omega)) (by omega)
  unfold N18 M18
  simp only [bne_self_eq_false, cond_false]
  rw [show (0 : Int) = ((0 : Nat) : Int) from rfl, e]
  rfl
abbrev Stp : Type := Bool × ByteArray × Int × Int × Int
theorem bnd26 {j n : Nat} (h : j < n) : (decide ((0 : Int) ≤ (j : Int)) && decide ((j : Int) < (n : Int))) = true := by rw [decide_eq_true (show (0 : Int) ≤ (j : Int) by omega), decide_eq_true (show (j : Int) < (n : Int) by omega)]; rfl
theorem w_loop {sc : List Stp} {x y z : TL} {i : Int} {s : Bool × ByteArray × Int × Int × Int × Unit} {o : List Qe} : ∀ (m j : Nat) (w : List ByteArray), j + m = w.length → w.length ≤ 1000000 → itr R6_4 (m + 1) (sc, x, y, z, i, s, o, w, (j : Int), ()) = some (sc, x, y, z, i, s, o, ()) := by
  intro m
  induction m with
  | zero =>
    intro j w h hl
    refine itr_out ?_
    unfold R6_4 Q6_4
    simp only []
    rw [bif_f (decide_eq_false (by omega))]
  | succ m ih =>
    intro j w h hl
    have hj : j < w.length := by omega
    refine (itr_in ?_).trans (ih (j + 1) (w.set j { data := #[115, 112, 111, 105, 108, 116] }) (by simp; omega) (by simp; omega))
    unfold R6_4 Q6_4
    simp only []
    rw [bif_t (decide_eq_true (by omega)), bif_t (bnd26 hj)]
    simp only [Option.bind_some, Int.toNat_natCast, List.getElem?_eq_getElem hj]
    rw [wsi (n := (j : Int) + 1) (by omega)]
    rfl
theorem o_loop {sc : List Stp} {x y z : TL} {i : Int} {s : Bool × ByteArray × Int × Int × Int × Unit} : ∀ (m j : Nat) (o : List Qe), j + m = o.length → o.length ≤ 1000000 → ∃ o', itr R6_2 (m + 1) (sc, x, y, z, i, s, o, (j : Int), ()) = some (sc, x, y, z, i, s, o', ()) ∧ o'.length = o.length := by
  intro m
  induction m with
  | zero =>
    intro j o h hl
    refine ⟨o, itr_out ?_, rfl⟩
    unfold R6_2 Q6_2
    simp only []
    rw [bif_f (decide_eq_false (by omega))]
  | succ m ih =>
    intro j o h hl
    have hj : j < o.length := by omega
    obtain ⟨o', e1, e2⟩ := ih (j + 1) (o.set j (o[j].1, o[j].2.1, -7)) (by simp; omega) (by simp; omega)
    refine ⟨o', (itr_in ?_).trans e1, by rw [e2]; simp⟩
    unfold R6_2 Q6_2
    simp only []
    rw [bif_t (decide_eq_true (by omega)), bif_t (bnd26 hj)]
    simp only [Option.bind_some, Int.toNat_natCast, List.getElem?_eq_getElem hj]
    rw [wsi (n := (j : Int) + 1) (by omega)]
    rfl
theorem openV_len {k : Nat} {x : TL} {name : ByteArray} (h : LI k x) : (openV (acct name x.1)).length ≤ k := by
  unfold openV
  split
  · simp
  · rename_i a ha
    obtain ⟨S, hS⟩ := li_acc (n := x.2) h ha
    obtain ⟨s1, s2⟩ := hS.slen
    rw [sort26 hS.hs hS.fine.nod]
    exact s1
theorem owingV_len {k : Nat} {x : TL} {day : Int} (h : LI k x) : (owingV x day).length ≤ k := by
  unfold owingV
  rw [sortB_len, List.length_map]
  exact Nat.le_trans (List.length_filter_le _ _) h.len
theorem ap_round {k i : Nat} {sc : List Stp} {x z : TL} (h : LI k x) (hk : k ≤ 900) (hi : i < sc.length) (h6 : i < 600) : ∃ x', R6_0 (sc, x, x, z, (i : Int), ()) = some (.inl (sc, x', x', z, ((i + 1 : Nat) : Int), ())) ∧ LI (k + 1) x' := by
  obtain ⟨M, n⟩ := x
  rcases hs : sc[i] with ⟨pay, nm, num, dy, am⟩
  cases pay with
  | true =>
    obtain ⟨r, e, x', hp, hP⟩ := pay_ok nm am h hk
    have li := hP.li
    obtain ⟨M', n'⟩ := x'
    have c9 : cPay.f ((M, n), nm, am, ()) = some (r, e, (M', n'), ()) := hp
    generalize hpay : true = pay at hs ⊢
    unfold R6_0 Q6_0
    simp only []
    rw [bif_t (decide_eq_true (show (i : Int) < (sc.length : Int) by omega)), bif_t (decide_eq_true (show (i : Int) < 600 by omega)), at26 hi, hs]
    simp only [Option.bind_some]
    rw [bif_t hpay.symm, c9]
    simp only [Option.bind_some, c9, bne_self_eq_false, cond_false]
    have ho1 : (openV (acct nm M')).length ≤ 901 := Nat.le_trans (openV_len (name := nm) li) (by omega)
    have hw1 : (owingV (M', n') dy).length ≤ 901 := Nat.le_trans (owingV_len (day := dy) li) (by omega)
    obtain ⟨o', l1, l2⟩ := o_loop (sc := sc) (x := (M', n')) (y := (M', n')) (z := z) (i := (i : Int)) (s := (pay, nm, num, dy, am, ())) (openV (acct nm M')).length 0 (openV (acct nm M')) (by omega) (by omega)
    have l1 := itrs_of l1 (by omega)
    have w1 := itrs_of (w_loop (sc := sc) (x := (M', n')) (y := (M', n')) (z := z) (i := (i : Int)) (s := (pay, nm, num, dy, am, ())) (o := o' ++ [(0, 0, -7)]) (owingV (M', n') dy).length 0 (owingV (M', n') dy) (by omega) (by omega)) (by omega)
    rw [show ((0 : Nat) : Int) = 0 from rfl] at l1 w1
    have c16 : cOpen.f ((M', n'), nm, ()) = some (openV (acct nm M'), (M', n'), ()) := open_ok nm li (by omega)
    have c19 : cOwing.f ((M', n'), dy, ()) = some (owingV (M', n') dy, (M', n'), ()) := owing_ok dy li (by omega)
    obtain ⟨z1, z2⟩ := z
    refine ⟨(M', n'), ?_, li⟩
    simp only [c16, c19, Option.bind_some]
    rw [l1]
    simp only [Option.bind_some]
    rw [bif_t (decide_eq_true (show (o'.length + 1) * 24 ≤ 210000000000000 by omega))]
    simp only [Option.bind_some, c16, c19]
    rw [w1]
    simp only [Option.bind_some, c16, c19]
    rw [wsi (n := ((openV (acct nm M')).length : Int) + 1) (by omega), bif_ne, if_pos (by rw [List.length_append, l2]; simp), opens26 (by omega)]
    simp only [Option.bind_some, Bool.not_true, cond_false, c16, c19]
    rw [texts26 (by omega)]
    simp only [Option.bind_some, Bool.not_true, cond_false]
    rw [wsi (n := (i : Int) + 1) (by omega)]
    rfl
  | false =>
    obtain ⟨e, x', hp, hP⟩ := post_ok nm num dy am h hk
    have li := hP.li
    obtain ⟨M', n'⟩ := x'
    have c11 : cPost.f ((M, n), nm, num, dy, am, ()) = some (e, (M', n'), ()) := hp
    generalize hpay : false = pay at hs ⊢
    unfold R6_0 Q6_0
    simp only []
    rw [bif_t (decide_eq_true (show (i : Int) < (sc.length : Int) by omega)), bif_t (decide_eq_true (show (i : Int) < 600 by omega)), at26 hi, hs]
    simp only [Option.bind_some]
    rw [bif_f hpay.symm, c11]
    simp only [Option.bind_some, c11, bne_self_eq_false, cond_false]
    have ho1 : (openV (acct nm M')).length ≤ 901 := Nat.le_trans (openV_len (name := nm) li) (by omega)
    have hw1 : (owingV (M', n') dy).length ≤ 901 := Nat.le_trans (owingV_len (day := dy) li) (by omega)
    obtain ⟨o', l1, l2⟩ := o_loop (sc := sc) (x := (M', n')) (y := (M', n')) (z := z) (i := (i : Int)) (s := (pay, nm, num, dy, am, ())) (openV (acct nm M')).length 0 (openV (acct nm M')) (by omega) (by omega)
    have l1 := itrs_of l1 (by omega)
    have w1 := itrs_of (w_loop (sc := sc) (x := (M', n')) (y := (M', n')) (z := z) (i := (i : Int)) (s := (pay, nm, num, dy, am, ())) (o := o' ++ [(0, 0, -7)]) (owingV (M', n') dy).length 0 (owingV (M', n') dy) (by omega) (by omega)) (by omega)
    rw [show ((0 : Nat) : Int) = 0 from rfl] at l1 w1
    have c16 : cOpen.f ((M', n'), nm, ()) = some (openV (acct nm M'), (M', n'), ()) := open_ok nm li (by omega)
    have c19 : cOwing.f ((M', n'), dy, ()) = some (owingV (M', n') dy, (M', n'), ()) := owing_ok dy li (by omega)
    obtain ⟨z1, z2⟩ := z
    refine ⟨(M', n'), ?_, li⟩
    simp only [c16, c19, Option.bind_some]
    rw [l1]
    simp only [Option.bind_some]
    rw [bif_t (decide_eq_true (show (o'.length + 1) * 24 ≤ 210000000000000 by omega))]
    simp only [Option.bind_some, c16, c19]
    rw [w1]
    simp only [Option.bind_some, c16, c19]
    rw [wsi (n := ((openV (acct nm M')).length : Int) + 1) (by omega), bif_ne, if_pos (by rw [List.length_append, l2]; simp), opens26 (by omega)]
    simp only [Option.bind_some, Bool.not_true, cond_false, c16, c19]
    rw [texts26 (by omega)]
    simp only [Option.bind_some, Bool.not_true, cond_false]
    rw [wsi (n := (i : Int) + 1) (by omega)]
    rfl
theorem ap_loop {sc : List Stp} {z : TL} : ∀ (m i : Nat) (x : TL), i + m = min sc.length 600 → LI i x → itr R6_0 (m + 1) (sc, x, x, z, (i : Int), ()) = some (.inl (z, ())) := by
  intro m
  induction m with
  | zero =>
    intro i x h hx
    refine itr_out ?_
    obtain ⟨M, n⟩ := x
    obtain ⟨z1, z2⟩ := z
    unfold R6_0 Q6_0
    simp only []
    by_cases hi : i < sc.length
    · rw [bif_t (decide_eq_true (show (i : Int) < (sc.length : Int) by omega)), bif_f (decide_eq_false (by omega))]
    · rw [bif_f (decide_eq_false (by omega))]
  | succ m ih =>
    intro i x h hx
    obtain ⟨x', e, hx'⟩ := ap_round (k := i) (i := i) (z := z) (sc := sc) hx (by omega) (by omega) (by omega)
    exact (itr_in e).trans (ih (i + 1) x' (by omega) hx')
theorem pureLedgerApart : PLedgerApart := by
  intro sc _
  have e := itrs_of (ap_loop (sc := sc) (z := (([], 0) : TL)) (min sc.length 600) 0 ([], 0) (by omega) li_nil) (by omega)
  rw [show ((0 : Nat) : Int) = 0 from rfl] at e
  have c8 : cNew.f () = some ((([], 0) : TL), ()) := rfl
  have c19 : cOwing.f ((([], 0) : TL), 1000000, ()) = some ([], (([], 0) : TL), ()) := (owing_ok (x := (([], 0) : TL)) 1000000 li_nil (by omega)).trans (by show some (sortB [], (([], 0) : TL), ()) = _; unfold sortB; simp)
  unfold N6 M6
  simp only []
  rw [awake26]
  simp only [Option.bind_some, Bool.not_true, cond_false, c8]
  rw [e]
  simp only [Option.bind_some, c19]
  rfl
end Go.Proofs.Ytkbhbiceojmnaaa.E
namespace Go.Proofs.Ytkbhbiceojmnaaa.E.Row
open Go Go.ChangeShapes Go.WideShapes Go.ChangeAt Go.RowKit Go.Proofs.Ytkbhbiceojmnaaa
set_option linter.unusedVariables false
set_option maxRecDepth 100000
theorem own : ownKnob Try.prog.godebug = none := by kernel_rfl
theorem laidOut : laidOutB Try.prog = true := by kernel_rfl
theorem came31 : Came κ Try.prog 31 ((.pair .bool (.pair .str (.pair (.int .i64) (.pair (.int .i64) (.int .i64))))) : K τ (Bool × (ByteArray × (Int × (Int × Int))))) W31 := Came.struct Try.underlying31 (by kernel_rfl) (CameFs.cons (o1 := 1) (Q := fun x : Bool => True) rfl (by kernel_rfl) rfl (Came.bool Try.underlying4) (CameFs.cons (o1 := 2) (Q := fun x : ByteArray => (ByteArray.size x ≤ 140737488351232)) rfl (by kernel_rfl) rfl (Came.string Try.underlying9) (CameFs.cons (o1 := 3) (Q := fun x : Int => (-9223372036854775808 ≤ x ∧ x ≤ 9223372036854775807)) rfl (by kernel_rfl) rfl (Came.i64 Try.underlying3) (CameFs.cons (o1 := 4) (Q := fun x : Int => (-9223372036854775808 ≤ x ∧ x ≤ 9223372036854775807)) rfl (by kernel_rfl) rfl (Came.i64 Try.underlying2) (CameFs.one (Q := fun x : Int => (-9223372036854775808 ≤ x ∧ x ≤ 9223372036854775807)) rfl (by kernel_rfl) (Came.i64 Try.underlying2))))))
theorem came22 : Came κ Try.prog 22 (.sl (τ := τ) 31) (fun a : (List (Bool × (ByteArray × (Int × (Int × Int))))) => (List.length a * Program.bytesOf Try.prog 31 ≤ 140737488351232 ∧ ∀ x ∈ a, W31 x)) := Came.slice (κ := κ) (e := 31) (Q := fun x : (Bool × (ByteArray × (Int × (Int × Int)))) => W31 x) Try.underlying22 (by kernel_rfl) (by kernel_rfl) rfl (show Came κ Try.prog 31 (κ 31) (fun x : (Bool × (ByteArray × (Int × (Int × Int)))) => W31 x) from came31)
theorem lifted (os : Os) (started : os.Started) (H : Type) (enc : TypeId × Value → H) :
    ReturnsInHanded {} Try.checked os 6 .any (Rows.ledgerApartSpec.pre6 enc Try.prog Try.f6 Rows.ledgerApartRow.domain false) (Rows.ledgerApartSpec.post enc Try.prog Try.f6 false true false false) := by
  refine returnsInHanded_of_change_sized (C := Try.checked) own started (by kernel_rfl) Try.func6
    (ChangeSpec.witness6 (enc := enc) (C := Try.checked) false ⟨#[], #[(.slice none 0 0)], []⟩ 8 (by kernel_rfl) (by kernel_rfl) (by kernel_rfl) (by kernel_rfl)) ?_
  intro W base args ds gs before hval0 hW hcnd hsz0 _
  have hsz : (DataW.weightsEach Try.prog (Try.f6.params.toList ++ Rows.ledgerApartSpec.plain.varTypes Try.prog) (ds ++ gs)).all (· ≤ reachBytes) = true := hsz0
  have hval : ∀ (j : Nat) t v, Try.f6.params[j]? = some t → args[j]? = some v → Value.okWide Try.prog W .any base t v := hval0
  have hW' := hW
  obtain ⟨p, q, hA0, hV, rfl, hfz, hnd⟩ := hW
  have hA : DataW.TrodAll enc Try.prog W 0 (fun _ => true) true Try.f6.params.toList args.toList ds p := hA0
  rw [Try.params6] at hA hval hsz
  obtain ⟨v0, vs0, d0, ds0, p0, q0, hargs, rfl, rfl, h0, r0⟩ := trodAll_cons hA
  obtain ⟨rfl, rfl, rfl⟩ := trodAll_nil r0
  obtain rfl : args = #[v0] := by cases args; simp_all
  obtain ⟨rfl, rfl⟩ := trodVars_none hV
  have hwt : ∀ (j : Nat) t d, [22][j]? = some t → [d0][j]? = some d → ∀ n ∈ DataW.weights Try.prog t d, n ≤ reachBytes := fun j t d h1 h2 n hn => by
    have := List.all_eq_true.1 hsz n (weights_each (j := j) (by simpa using (List.getElem?_append_left (l₂ := Rows.ledgerApartSpec.plain.varTypes Try.prog) (List.getElem?_eq_some_iff.1 h1).1).trans h1) (by simpa using h2) n hn)
    simpa using this
  have lt0 : ∀ x ∈ p0, x.block < W.heap.size := by obtain ⟨m, hm⟩ := h0; exact DataW.trod_lt m _ _ _ hm
  obtain ⟨a0, e0, y0⟩ := arg_slice Try.underlying22 came22 (hval 0 22 v0 rfl rfl) h0 (hwt 0 22 d0 rfl rfl)
  have hp : N6 (a0, ()) = some (true, ()) := pureLedgerApart a0 y0
  refine (law_calls (i := i6) (n := N6) (F := Try.f6) (code := bodyOf Try.f6) s6 (by kernel_rfl) Try.func6 (by kernel_rfl) (by kernel_rfl) hp (argsK_cons e0 argsK_nil)).mono fun e W' ⟨he, bel⟩ => ?_
  subst he
  exact ⟨_, rfl, _, _, _, [], _, [], hW', trodAll_mk1 (shut_bool Try.underlying4 _), (trodAll_cons_mk (Below.trod laidOut (by kernel_rfl) (of_decide_eq_true (by kernel_rfl)) h0 bel lt0) trodAll_mk0), rfl, bel.frame _, fun h => by cases h⟩
theorem over : Rows.ledgerApartRow.holds Try.pinned (OpenSpec.ofChange Rows.ledgerApartSpec) :=
  OpenClaim.holds_of_wide 6 Try.f6 rfl rfl rfl rfl rfl rfl rfl ⟨rfl, rfl, rfl, rfl, rfl⟩ rfl rfl rfl rfl rfl (by kernel_rfl) Try.func6 (by kernel_rfl)
    (of_decide_eq_true (by kernel_rfl)) (by unfold Func.isWrapper; first | (rw [if_pos (by decide +kernel)]; kernel_rfl) | (rw [if_neg (by decide +kernel)]; exact ⟨rfl, rfl⟩))
    (fun os started H enc _ => lifted os started H enc)
theorem proved : Rows.LedgerApartSaid := over
end Go.Proofs.Ytkbhbiceojmnaaa.E.Row
namespace Go.Proofs.Ytkbhbiceojmnaaa
/-- The row, under a short name, for the claim. -/
theorem ledgerApart_holds : Rows.LedgerApartSaid := Ytkbhbiceojmnaaa.E.Row.proved
#print axioms ledgerApart_holds
end Go.Proofs.Ytkbhbiceojmnaaa
