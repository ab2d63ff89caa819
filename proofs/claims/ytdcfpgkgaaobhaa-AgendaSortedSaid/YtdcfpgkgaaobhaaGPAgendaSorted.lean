/- The statement AgendaSorted for every input: the plain facts on the functions' results, and the row. No condition. -/
import Derived.Test.YtdcfpgkgaaobhaaGF0
import Derived.Test.YtdcfpgkgaaobhaaGE2
import Derived.Test.YtdcfpgkgaaobhaaRows
import Derived.Test.YtdcfpgkgaaobhaaChecked
namespace Go.Proofs.Ytdcfpgkgaaobhaa.E
open Go
def W30 (a : (Int × (Int × (ByteArray × Int)))) : Prop := (-9223372036854775808 ≤ a.1 ∧ a.1 ≤ 9223372036854775807) ∧ (-9223372036854775808 ≤ a.2.1 ∧ a.2.1 ≤ 9223372036854775807) ∧ (ByteArray.size a.2.2.1 ≤ 140737488351232) ∧ (-9223372036854775808 ≤ a.2.2.2 ∧ a.2.2.2 ≤ 9223372036854775807)
def PAgendaSorted : Prop := ∀ (a0 : (List (Int × (Int × (ByteArray × Int))))), (List.length a0 * Program.bytesOf Try.prog 30 ≤ 140737488351232 ∧ ∀ x ∈ a0, W30 x) → N3 (a0, ()) = some (true, ())
end Go.Proofs.Ytdcfpgkgaaobhaa.E
/-
  Heaps in lists: plain facts. No program here; the order's two laws are the only condition.
-/
namespace Go.Proofs.Ytdcfpgkgaaobhaa.E.Hp
open Go
set_option linter.unusedVariables false
set_option linter.unusedSectionVars false
set_option linter.unusedSimpArgs false
theorem getD_set {γ : Type} {l : List γ} {i j : Nat} {a z : γ} (hi : i < l.length) : (l.set i a).getD j z = if j = i then a else l.getD j z := by
  rw [List.getD_eq_getElem?_getD, List.getD_eq_getElem?_getD, List.getElem?_set]
  by_cases h : i = j
  · subst h
    simp [hi]
  · rw [if_neg h, if_neg (fun e => h e.symm)]
theorem getD_get {γ : Type} {l : List γ} {j : Nat} {z : γ} (h : j < l.length) : l.getD j z = l[j] := by
  rw [List.getD_eq_getElem?_getD, List.getElem?_eq_getElem h]
  rfl
section
variable {α : Type} [DecidableEq α] {z : α}
def swp (z : α) (l : List α) (i j : Nat) : List α := (l.set i (l.getD j z)).set j (l.getD i z)
theorem swp_len (l : List α) (i j : Nat) : (swp z l i j).length = l.length := by simp [swp]
theorem swp_get {l : List α} {i j k : Nat} (hi : i < l.length) (hj : j < l.length) : (swp z l i j).getD k z = if k = j then l.getD i z else if k = i then l.getD j z else l.getD k z := by
  unfold swp
  rw [getD_set (by simpa using hj), getD_set hi]
theorem swp_perm {l : List α} {i j : Nat} (hi : i < l.length) (hj : j < l.length) : (swp z l i j).Perm l := by
  rw [List.perm_iff_count]
  intro a
  unfold swp
  rw [getD_get hj, getD_get hi, List.count_set (by simpa using hj), List.count_set hi, List.getElem_set]
  have h1 : (if l[i] == a then 1 else 0) ≤ l.count a := by
    split
    · rename_i h
      have : l[i] = a := by simpa using h
      exact List.count_pos_iff.2 (this ▸ List.getElem_mem hi)
    · omega
  by_cases hij : i = j
  · subst hij
    simp only [if_true]
    omega
  · rw [if_neg hij]
    have h2 : (if l[i] == a then 1 else 0) + (if l[j] == a then 1 else 0) ≤ l.count a ∨ ¬ (l[i] == a ∧ l[j] == a) := by
      by_cases hb : (l[i] == a) = true ∧ (l[j] == a) = true
      · refine .inl ?_
        rw [if_pos hb.1, if_pos hb.2]
        have e1 : l[i] = a := by simpa using hb.1
        have e2 : l[j] = a := by simpa using hb.2
        -- two places
        have : ∀ (l : List α) (i j : Nat) (hi : i < l.length) (hj : j < l.length), i < j → l[i] = a → l[j] = a → 2 ≤ l.count a := by
          intro l
          induction l with
          | nil => intro i j hi; simp at hi
          | cons x l ih =>
            intro i j hi hj h1 h2 h3
            cases j with
            | zero => omega
            | succ j =>
              cases i with
              | zero =>
                simp only [List.getElem_cons_zero] at h2
                simp only [List.getElem_cons_succ] at h3
                subst h2
                rw [List.count_cons_self]
                have := List.count_pos_iff.2 (h3 ▸ List.getElem_mem (by simpa using hj : j < l.length))
                omega
              | succ i =>
                have := ih i j (by simpa using hi) (by simpa using hj) (by omega) (by simpa using h2) (by simpa using h3)
                exact Nat.le_trans this (List.count_le_count_cons)
        rcases Nat.lt_or_gt_of_ne hij with h | h
        · exact this l i j hi hj h e1 e2
        · exact this l j i hj hi h e2 e1
      · exact .inr hb
    have h3 : (if l[j] == a then 1 else 0) ≤ l.count a := by
      split
      · rename_i h
        have : l[j] = a := by simpa using h
        exact List.count_pos_iff.2 (this ▸ List.getElem_mem hj)
      · omega
    by_cases ha : (l[i] == a) = true <;> by_cases hb : (l[j] == a) = true <;> simp only [ha, hb, if_true, if_false, Bool.false_eq_true] at h1 h2 h3 ⊢ <;> omega
variable (lt : α → α → Bool)
/-- The order's laws. -/
structure Lw : Prop where
  asym : ∀ a b, lt a b = true → lt b a = false
  neg : ∀ a b c, lt a b = false → lt b c = false → lt a c = false
def Heap (z : α) (l : List α) (n : Nat) : Prop := ∀ c, 0 < c → c < n → lt (l.getD c z) (l.getD ((c - 1) / 2) z) = false
structure UpI (z : α) (l : List α) (j : Nat) : Prop where
  a : ∀ c, 0 < c → c < l.length → c ≠ j → lt (l.getD c z) (l.getD ((c - 1) / 2) z) = false
  b : ∀ c, 0 < c → c < l.length → (c - 1) / 2 = j → 0 < j → lt (l.getD c z) (l.getD ((j - 1) / 2) z) = false
variable {lt} (W : Lw lt)
include W
theorem up_end {l : List α} {j : Nat} (h : UpI lt z l j) (hj : j = 0 ∨ lt (l.getD j z) (l.getD ((j - 1) / 2) z) = false) : Heap lt z l l.length := fun c c0 c1 => by
  by_cases e : c = j
  · subst e
    rcases hj with h | h
    · omega
    · exact h
  · exact h.a c c0 c1 e
theorem up_step {l : List α} {j : Nat} (h : UpI lt z l j) (h0 : 0 < j) (hj : j < l.length) (hl : lt (l.getD j z) (l.getD ((j - 1) / 2) z) = true) : UpI lt z (swp z l ((j - 1) / 2) j) ((j - 1) / 2) := by
  have hi : (j - 1) / 2 < l.length := by omega
  have asy := W.asym _ _ hl
  have ln := swp_len (z := z) l ((j - 1) / 2) j
  refine ⟨fun c c0 c1 ce => ?_, fun c c0 c1 cp i0 => ?_⟩
  · rw [ln] at c1
    rw [swp_get hi hj, swp_get hi hj]
    by_cases k1 : c = j
    · subst k1
      rw [if_pos rfl, if_neg (by omega), if_pos rfl]
      exact asy
    · rw [if_neg k1, if_neg ce]
      by_cases k2 : (c - 1) / 2 = j
      · rw [if_pos k2]
        exact h.b c c0 c1 k2 h0
      · rw [if_neg k2]
        by_cases k3 : (c - 1) / 2 = (j - 1) / 2
        · rw [if_pos k3]
          have := h.a c c0 c1 k1
          rw [k3] at this
          exact W.neg _ _ _ this asy
        · rw [if_neg k3]
          exact h.a c c0 c1 k1
  · rw [ln] at c1
    rw [swp_get hi hj, swp_get hi hj, if_neg (show ¬ ((j - 1) / 2 - 1) / 2 = j by omega), if_neg (show ¬ ((j - 1) / 2 - 1) / 2 = (j - 1) / 2 by omega)]
    have top := h.a ((j - 1) / 2) i0 hi (by omega)
    by_cases k1 : c = j
    · rw [if_pos k1]
      exact top
    · rw [if_neg k1, if_neg (by omega)]
      have := h.a c c0 c1 k1
      rw [cp] at this
      exact W.neg _ _ _ this top
omit W in
theorem push_start {l : List α} {x : α} (h : Heap lt z l l.length) : UpI lt z (l ++ [x]) l.length := by
  have g : ∀ c, c < l.length → (l ++ [x]).getD c z = l.getD c z := fun c hc => by
    rw [List.getD_eq_getElem?_getD, List.getD_eq_getElem?_getD, List.getElem?_append_left hc]
  refine ⟨fun c c0 c1 ce => ?_, fun c c0 c1 cp j0 => ?_⟩
  · simp only [List.length_append, List.length_singleton] at c1
    rw [g c (by omega), g _ (by omega)]
    exact h c c0 (by omega)
  · simp only [List.length_append, List.length_singleton] at c1
    omega
structure DnI (lt : α → α → Bool) (z : α) (l : List α) (i n : Nat) : Prop where
  a : ∀ c, 0 < c → c < n → (c - 1) / 2 ≠ i → lt (l.getD c z) (l.getD ((c - 1) / 2) z) = false
  b : ∀ c, 0 < c → c < n → (c - 1) / 2 = i → 0 < i → lt (l.getD c z) (l.getD ((i - 1) / 2) z) = false
omit W in
theorem dn_end0 {l : List α} {i n : Nat} (h : DnI lt z l i n) (hi : n ≤ 2 * i + 1) : Heap lt z l n := fun c c0 c1 => h.a c c0 c1 (by omega)
/-- j is the lesser child. -/
def Kid (lt : α → α → Bool) (z : α) (l : List α) (i n j : Nat) : Prop := (j - 1) / 2 = i ∧ 0 < j ∧ j < n ∧ ∀ c, 0 < c → c < n → (c - 1) / 2 = i → c ≠ j → lt (l.getD c z) (l.getD j z) = false
theorem dn_end {l : List α} {i n j : Nat} (h : DnI lt z l i n) (k : Kid lt z l i n j) (hl : lt (l.getD j z) (l.getD i z) = false) : Heap lt z l n := fun c c0 c1 => by
  by_cases e : (c - 1) / 2 = i
  · rw [e]
    by_cases ej : c = j
    · rw [ej]; exact hl
    · exact W.neg _ _ _ (k.2.2.2 c c0 c1 e ej) hl
  · exact h.a c c0 c1 e
theorem dn_step {l : List α} {i n j : Nat} (hn : n ≤ l.length) (h : DnI lt z l i n) (k : Kid lt z l i n j) (hl : lt (l.getD j z) (l.getD i z) = true) : DnI lt z (swp z l i j) j n := by
  obtain ⟨k1, k2, k3, k4⟩ := k
  have hi : i < l.length := by omega
  have hj : j < l.length := by omega
  have asy := W.asym _ _ hl
  refine ⟨fun c c0 c1 ce => ?_, fun c c0 c1 cp j0 => ?_⟩
  · rw [swp_get hi hj, swp_get hi hj]
    by_cases e1 : c = j
    · subst e1
      rw [if_pos rfl, k1, if_neg (by omega), if_pos rfl]
      exact asy
    · rw [if_neg e1, if_neg ce]
      by_cases e2 : c = i
      · subst e2
        rw [if_pos rfl, if_neg (by omega)]
        exact h.b j k2 k3 k1 c0
      · rw [if_neg e2]
        by_cases e3 : (c - 1) / 2 = i
        · rw [if_pos e3]
          exact k4 c c0 c1 e3 e1
        · rw [if_neg e3]
          exact h.a c c0 c1 e3
  · rw [swp_get hi hj, swp_get hi hj, k1, if_neg (by omega), if_neg (by omega), if_neg (by omega), if_pos rfl]
    have := h.a c c0 c1 (by omega)
    rw [cp] at this
    exact this
/-- The first one is the least. -/
theorem heap_least {l : List α} {n : Nat} (h : Heap lt z l n) : ∀ (m c : Nat), c ≤ m → c < n → lt (l.getD c z) (l.getD 0 z) = false
  | m, c, hm, hc => by
    by_cases c0 : c = 0
    · subst c0
      cases e : lt (l.getD 0 z) (l.getD 0 z) with
      | false => rfl
      | true => exact absurd e (by rw [W.asym _ _ e]; decide)
    · have a := h c (by omega) hc
      have b := heap_least h (m - 1) ((c - 1) / 2) (by omega) (by omega)
      exact W.neg _ _ _ a b
termination_by m => m
decreasing_by omega
omit W in
/-- The last one laid to the front, ahead of going down. -/
theorem pop_start {l : List α} {n : Nat} (hl : l.length = n + 1) (h : Heap lt z l (n + 1)) : DnI lt z (swp z l 0 n) 0 n := by
  refine ⟨fun c c0 c1 ce => ?_, fun c c0 c1 cp j0 => by omega⟩
  rw [swp_get (by omega) (by omega), swp_get (by omega) (by omega), if_neg (by omega), if_neg (by omega), if_neg (by omega), if_neg (by omega)]
  exact h c c0 (by omega)
end
end Go.Proofs.Ytdcfpgkgaaobhaa.E.Hp
/-
  Heaps in lists, more: an element taken out at any place; up within the first n. No program here; the order's two laws are the only condition.
-/
namespace Go.Proofs.Ytdcfpgkgaaobhaa.E.Hp
open Go
set_option linter.unusedVariables false
set_option linter.unusedSectionVars false
set_option linter.unusedSimpArgs false
section
variable {α : Type} [DecidableEq α] {z : α}
variable (lt : α → α → Bool)
structure UpN (z : α) (l : List α) (j n : Nat) : Prop where
  a : ∀ c, 0 < c → c < n → c ≠ j → lt (l.getD c z) (l.getD ((c - 1) / 2) z) = false
  b : ∀ c, 0 < c → c < n → (c - 1) / 2 = j → 0 < j → lt (l.getD c z) (l.getD ((j - 1) / 2) z) = false
/-- All in order but what lies at i. -/
structure RmI (z : α) (l : List α) (i n : Nat) : Prop where
  a : ∀ c, 0 < c → c < n → c ≠ i → (c - 1) / 2 ≠ i → lt (l.getD c z) (l.getD ((c - 1) / 2) z) = false
  b : ∀ c, 0 < c → c < n → (c - 1) / 2 = i → 0 < i → lt (l.getD c z) (l.getD ((i - 1) / 2) z) = false
variable {lt} (W : Lw lt)
include W
theorem upn_end {l : List α} {j n : Nat} (h : UpN lt z l j n) (hj : j = 0 ∨ lt (l.getD j z) (l.getD ((j - 1) / 2) z) = false) : Heap lt z l n := fun c c0 c1 => by
  by_cases e : c = j
  · subst e
    rcases hj with h | h
    · omega
    · exact h
  · exact h.a c c0 c1 e
theorem upn_step {l : List α} {j n : Nat} (h : UpN lt z l j n) (h0 : 0 < j) (hj : j < n) (hn : n ≤ l.length) (hl : lt (l.getD j z) (l.getD ((j - 1) / 2) z) = true) : UpN lt z (swp z l ((j - 1) / 2) j) ((j - 1) / 2) n := by
  have hi : (j - 1) / 2 < l.length := by omega
  have hj' : j < l.length := by omega
  have asy := W.asym _ _ hl
  refine ⟨fun c c0 c1 ce => ?_, fun c c0 c1 cp i0 => ?_⟩
  · rw [swp_get hi hj', swp_get hi hj']
    by_cases k1 : c = j
    · subst k1
      rw [if_pos rfl, if_neg (by omega), if_pos rfl]
      exact asy
    · rw [if_neg k1, if_neg ce]
      by_cases k2 : (c - 1) / 2 = j
      · rw [if_pos k2]
        exact h.b c c0 c1 k2 h0
      · rw [if_neg k2]
        by_cases k3 : (c - 1) / 2 = (j - 1) / 2
        · rw [if_pos k3]
          have := h.a c c0 c1 k1
          rw [k3] at this
          exact W.neg _ _ _ this asy
        · rw [if_neg k3]
          exact h.a c c0 c1 k1
  · rw [swp_get hi hj', swp_get hi hj', if_neg (show ¬ ((j - 1) / 2 - 1) / 2 = j by omega), if_neg (show ¬ ((j - 1) / 2 - 1) / 2 = (j - 1) / 2 by omega)]
    have top := h.a ((j - 1) / 2) i0 (by omega) (by omega)
    by_cases k1 : c = j
    · rw [if_pos k1]
      exact top
    · rw [if_neg k1, if_neg (by omega)]
      have := h.a c c0 c1 k1
      rw [cp] at this
      exact W.neg _ _ _ this top
omit W in
theorem upn_heap {l : List α} {j n : Nat} (h : Heap lt z l n) (hb : ∀ c, 0 < c → c < n → (c - 1) / 2 = j → 0 < j → lt (l.getD c z) (l.getD ((j - 1) / 2) z) = false) : UpN lt z l j n := ⟨fun c c0 c1 _ => h c c0 c1, hb⟩
theorem upn_of_heap {l : List α} {j n : Nat} (hj : j < n) (h : Heap lt z l n) : UpN lt z l j n := upn_heap h fun c c0 c1 cp j0 => by
  have h1 := h c c0 c1
  rw [cp] at h1
  exact W.neg _ _ _ h1 (h j j0 hj)
omit W in
theorem upn_push {l : List α} {x : α} (h : Heap lt z l l.length) : UpN lt z (l ++ [x]) l.length (l.length + 1) := by
  have g : ∀ c, c < l.length → (l ++ [x]).getD c z = l.getD c z := fun c hc => by
    rw [List.getD_eq_getElem?_getD, List.getD_eq_getElem?_getD, List.getElem?_append_left hc]
  refine ⟨fun c c0 c1 ce => ?_, fun c c0 c1 cp j0 => ?_⟩
  · rw [g c (by omega), g _ (by omega)]
    exact h c c0 (by omega)
  · omega
theorem rm_start {l : List α} {i n : Nat} (hl : l.length = n + 1) (hi : i < n) (h : Heap lt z l (n + 1)) : RmI lt z (swp z l i n) i n := by
  refine ⟨fun c c0 c1 ce cp => ?_, fun c c0 c1 cp i0 => ?_⟩
  · rw [swp_get (by omega) (by omega), swp_get (by omega) (by omega), if_neg (by omega), if_neg (by omega), if_neg (by omega), if_neg (by omega)]
    exact h c c0 (by omega)
  · rw [swp_get (by omega) (by omega), swp_get (by omega) (by omega), if_neg (by omega), if_neg (by omega), if_neg (by omega), if_neg (by omega)]
    have h1 := h c c0 (by omega)
    rw [cp] at h1
    exact W.neg _ _ _ h1 (h i i0 (by omega))
omit W in
theorem rm_dn {l : List α} {i n : Nat} (h : RmI lt z l i n) (hi : i = 0 ∨ lt (l.getD i z) (l.getD ((i - 1) / 2) z) = false) : DnI lt z l i n := ⟨fun c c0 c1 cp => by
  by_cases e : c = i
  · subst e
    rcases hi with hi | hi
    · omega
    · exact hi
  · exact h.a c c0 c1 e cp, h.b⟩
theorem rm_up {l : List α} {i n : Nat} (h : RmI lt z l i n) (i0 : 0 < i) (hi : lt (l.getD i z) (l.getD ((i - 1) / 2) z) = true) : UpN lt z l i n ∧ ∀ c, 0 < c → c < n → (c - 1) / 2 = i → lt (l.getD c z) (l.getD i z) = false := by
  have asy := W.asym _ _ hi
  have kids : ∀ c, 0 < c → c < n → (c - 1) / 2 = i → lt (l.getD c z) (l.getD i z) = false := fun c c0 c1 cp => W.neg _ _ _ (h.b c c0 c1 cp i0) asy
  refine ⟨⟨fun c c0 c1 ce => ?_, h.b⟩, kids⟩
  by_cases e : (c - 1) / 2 = i
  · rw [e]; exact kids c c0 c1 e
  · exact h.a c c0 c1 ce e
end
end Go.Proofs.Ytdcfpgkgaaobhaa.E.Hp
/-
  The queue of what is due is a heap. No condition but its length.
-/
namespace Go.Proofs.Ytdcfpgkgaaobhaa.E
open Go
set_option linter.unusedVariables false
set_option linter.unusedSimpArgs false
set_option maxRecDepth 100000
open Hp (swp swp_len swp_get swp_perm getD_get)
theorem q_asym (a b : Qe) (h : qlt a b = true) : qlt b a = false := by
  cases h2 : qlt b a with
  | false => rfl
  | true => have := qTot.trans a b a h h2; rw [qTot.irr] at this; cases this
theorem qlw : Hp.Lw qlt := ⟨q_asym, fun a b c h1 h2 => qTot.swo.ntrans a b c h1 h2⟩
abbrev QHeap (l : List Qe) : Prop := Hp.Heap qlt qz l l.length
theorem inb {i n : Nat} (h : i < n) : (decide (0 ≤ (i : Int)) && decide ((i : Int) < (n : Int))) = true := by rw [decide_eq_true (show 0 ≤ (i : Int) by omega), decide_eq_true (show (i : Int) < (n : Int) by omega)]; rfl
theorem qLess {l : List Qe} {i j : Nat} (hi : i < l.length) (hj : j < l.length) : N73 (l, (i : Int), (j : Int), ()) = some (qlt (l.getD i qz) (l.getD j qz), l, ()) := by
  unfold N73 M73
  simp only []
  rw [inb hi, inb hj]
  simp only [Int.toNat_natCast, List.getElem?_eq_getElem hi, List.getElem?_eq_getElem hj, Option.bind_some, cond_true]
  rw [getD_get hi, getD_get hj]
  have e := mCompare l[i] l[j]
  rw [show N25 ((l[i].1, l[i].2.1, l[i].2.2.1, l[i].2.2.2), (l[j].1, l[j].2.1, l[j].2.2.1, l[j].2.2.2), ()) = _ from e]
  simp only [Option.bind_some]
  rw [cmpQ_lt]
theorem qSwap {l : List Qe} {i j : Nat} (hi : i < l.length) (hj : j < l.length) : N74 (l, (i : Int), (j : Int), ()) = some (swp qz l i j, ()) := by
  unfold N74 M74
  simp only [List.length_set]
  rw [inb hi, inb hj]
  simp only [Int.toNat_natCast, List.getElem?_eq_getElem hi, List.getElem?_eq_getElem hj, Option.bind_some, cond_true]
  have h2 : j < (l.set i (l[j].1, l[j].2.1, l[j].2.2.1, l[j].2.2.2)).length := by simpa using hj
  rw [List.getElem?_eq_getElem h2]
  simp only [Option.bind_some]
  unfold swp
  rw [getD_get hi, getD_get hj]
theorem qLen (l : List Qe) : N21 (l, ()) = some ((l.length : Int), l, ()) := rfl
theorem qUp (a : Int) : ∀ (m : Nat) (l : List Qe) (j n : Nat), j ≤ m → j < n → n ≤ l.length → l.length ≤ 1000000000 → Hp.UpN qlt qz l j n → ∃ l', itr R30_0 (m + 1) ((l, a, ()), (j : Int), ()) = some ((l', a, ()), ()) ∧ Hp.Heap qlt qz l' n ∧ l'.Perm l ∧ l'.length = l.length ∧ ∀ c, n ≤ c → l'.getD c qz = l.getD c qz
  | m, l, j, n, hm, hj, hn, hl, h => by
    have hp : IntKind.wrap .i64 (Int.tdiv (IntKind.wrap .i64 ((j : Int) - 1)) 2) = (((j - 1) / 2 : Nat) : Int) := by
      rw [wsi (n := (j : Int) - 1) (by omega)]
      by_cases j0 : j = 0
      · subst j0; rfl
      · rw [tdiv_pos (by omega), wsi (by omega)]; omega
    by_cases j0 : j = 0
    · refine ⟨l, ?_, Hp.upn_end qlw h (.inl j0), .refl _, rfl, fun _ _ => rfl⟩
      refine itr_out ?_
      unfold R30_0 Q30_0
      simp only []
      rw [hp, bif_t (show ((((j - 1) / 2 : Nat) : Int) == (j : Int)) = true from by simp; omega)]
    · have hj' : j < l.length := by omega
      have hi : (j - 1) / 2 < l.length := by omega
      have hs := qSwap hi hj'
      cases hc : qlt (l.getD j qz) (l.getD ((j - 1) / 2) qz) with
      | false =>
        refine ⟨l, ?_, Hp.upn_end qlw h (.inr hc), .refl _, rfl, fun _ _ => rfl⟩
        refine itr_out ?_
        unfold R30_0 Q30_0
        simp only []
        rw [hp, bif_f (show ((((j - 1) / 2 : Nat) : Int) == (j : Int)) = false from by simp; omega), qLess hj' hi, hc]
        rfl
      | true =>
        have hr : R30_0 ((l, a, ()), (j : Int), ()) = some (.inl ((swp qz l ((j - 1) / 2) j, a, ()), (((j - 1) / 2 : Nat) : Int), ())) := by
          unfold R30_0 Q30_0
          simp only []
          rw [hp, bif_f (show ((((j - 1) / 2 : Nat) : Int) == (j : Int)) = false from by simp; omega), qLess hj' hi, hc]
          simp only [Option.bind_some, Bool.not_true, cond_false]
          rw [hs]
          rfl
        have ln := swp_len (z := qz) l ((j - 1) / 2) j
        cases m with
        | zero => omega
        | succ m =>
          obtain ⟨l', e, a1, b1, c1, d1⟩ := qUp a m (swp qz l ((j - 1) / 2) j) ((j - 1) / 2) n (by omega) (by omega) (by omega) (by omega) (Hp.upn_step qlw h (by omega) hj hn hc)
          exact ⟨l', by rw [itr_in hr, e], a1, b1.trans (swp_perm hi hj'), by omega, fun c hc => by rw [d1 c hc, swp_get hi hj', if_neg (by omega), if_neg (by omega)]⟩
theorem qUpN (a : Int) {l : List Qe} {j n : Nat} (hj : j < n) (hn : n ≤ l.length) (hl : l.length ≤ 1000000000) (h : Hp.UpN qlt qz l j n) : ∃ l', N30 ((l, a, ()), (j : Int), ()) = some ((l', a, ()), ()) ∧ Hp.Heap qlt qz l' n ∧ l'.Perm l ∧ l'.length = l.length ∧ ∀ c, n ≤ c → l'.getD c qz = l.getD c qz := by
  obtain ⟨l', e, k⟩ := qUp a j l j n (Nat.le_refl _) hj hn hl h
  refine ⟨l', ?_, k⟩
  unfold N30 M30
  simp only []
  rw [itrs_of e (by omega)]
  rfl
theorem qPush (a : Int) {l : List Qe} {x : Qe} (h : QHeap l) (hl : l.length < 1000000000) : ∃ l', N22 ((l, a, ()), x, ()) = some ((l', a, ()), ()) ∧ QHeap l' ∧ l'.Perm (l ++ [x]) ∧ l'.length = l.length + 1 := by
  obtain ⟨l', e, a1, b1, c1, _⟩ := qUpN a (l := l ++ [x]) (j := l.length) (n := l.length + 1) (by omega) (by simp) (by simp; omega) (Hp.upn_push h)
  have hl' : l'.length = l.length + 1 := by rw [c1]; simp
  refine ⟨l', ?_, by unfold QHeap; rw [hl']; exact a1, b1, hl'⟩
  obtain ⟨x0, x1, x2, x3⟩ := x
  unfold N22 M22 N76 M76
  simp only []
  rw [bif_t (decide_eq_true (by omega))]
  simp only [Option.bind_some]
  rw [qLen]
  simp only [Option.bind_some]
  rw [wsi (by simp; omega), show ((l ++ [(x0, x1, x2, x3)]).length : Int) - 1 = (l.length : Int) from by simp]
  rw [e]
  rfl
theorem kid_of {l : List Qe} {i n : Nat} (h1 : 2 * i + 1 < n) : Hp.Kid qlt qz l i n (if 2 * i + 2 < n ∧ qlt (l.getD (2 * i + 2) qz) (l.getD (2 * i + 1) qz) = true then 2 * i + 2 else 2 * i + 1) := by
  split
  · rename_i h
    refine ⟨by omega, by omega, h.1, fun c c0 c1 cp ce => ?_⟩
    rw [show c = 2 * i + 1 from by omega]
    exact qlw.asym _ _ h.2
  · rename_i h
    refine ⟨by omega, by omega, h1, fun c c0 c1 cp ce => ?_⟩
    have ec : c = 2 * i + 2 := by omega
    subst ec
    cases hq : qlt (l.getD (2 * i + 2) qz) (l.getD (2 * i + 1) qz) with
    | false => rfl
    | true => exact absurd ⟨c1, hq⟩ h
theorem dn_leaf (a : Int) (i0 : Int) {l : List Qe} {i n : Nat} (hl : n ≤ 1000000000) (hin : i ≤ n) (h1 : n ≤ 2 * i + 1) : R37_0 ((l, a, ()), i0, (n : Int), (i : Int), ()) = some (.inr ((l, a, ()), i0, (i : Int), ())) := by
  have p1 : IntKind.wrap .i64 (IntKind.wrap .i64 (2 * (i : Int)) + 1) = ((2 * i + 1 : Nat) : Int) := by
    rw [wsi (n := 2 * (i : Int)) (by omega), wsi (by omega)]; omega
  unfold R37_0 Q37_0
  simp only []
  rw [p1, bif_t (decide_eq_true (by omega))]
theorem dn_round (a : Int) (i0 : Int) {l : List Qe} {i n j : Nat} (hn : n ≤ l.length) (hl : l.length ≤ 1000000000) (h1 : 2 * i + 1 < n) (hjv : (if 2 * i + 2 < n ∧ qlt (l.getD (2 * i + 2) qz) (l.getD (2 * i + 1) qz) = true then 2 * i + 2 else 2 * i + 1) = j) :
    R37_0 ((l, a, ()), i0, (n : Int), (i : Int), ()) = (bif qlt (l.getD j qz) (l.getD i qz) then some (.inl ((swp qz l i j, a, ()), i0, (n : Int), (j : Int), ())) else some (.inr ((l, a, ()), i0, (i : Int), ()))) := by
  have p1 : IntKind.wrap .i64 (IntKind.wrap .i64 (2 * (i : Int)) + 1) = ((2 * i + 1 : Nat) : Int) := by
    rw [wsi (n := 2 * (i : Int)) (by omega), wsi (by omega)]; omega
  have p2 : IntKind.wrap .i64 (((2 * i + 1 : Nat) : Int) + 1) = ((2 * i + 2 : Nat) : Int) := by rw [wsi (by omega)]; omega
  have hi : i < l.length := by omega
  have hj1 : 2 * i + 1 < l.length := by omega
  have hj : j < l.length := by subst hjv; split <;> omega
  have hs := qSwap hi hj
  unfold R37_0 Q37_0
  simp only []
  rw [p1, p2, bif_f (decide_eq_false (by omega)), bif_f (decide_eq_false (by omega))]
  by_cases h2 : 2 * i + 2 < n
  · have hj2 : 2 * i + 2 < l.length := by omega
    rw [bif_t (decide_eq_true (by omega)), qLess hj2 hj1]
    simp only [Option.bind_some]
    cases hq : qlt (l.getD (2 * i + 2) qz) (l.getD (2 * i + 1) qz) with
    | true =>
      rw [if_pos ⟨h2, hq⟩] at hjv
      subst hjv
      simp only [cond_true]
      rw [qLess hj2 hi]
      simp only [Option.bind_some]
      rw [hs]
      cases qlt (l.getD (2 * i + 2) qz) (l.getD i qz) <;> rfl
    | false =>
      rw [if_neg (by rw [hq]; simp)] at hjv
      subst hjv
      simp only [cond_false]
      rw [qLess hj1 hi]
      simp only [Option.bind_some]
      rw [hs]
      cases qlt (l.getD (2 * i + 1) qz) (l.getD i qz) <;> rfl
  · rw [if_neg (by omega)] at hjv
    subst hjv
    rw [bif_f (decide_eq_false (by omega)), qLess hj1 hi]
    simp only [Option.bind_some]
    rw [hs]
    cases qlt (l.getD (2 * i + 1) qz) (l.getD i qz) <;> rfl
theorem qDown (a : Int) (i0 : Int) : ∀ (m : Nat) (l : List Qe) (i n : Nat), n ≤ i + m → n ≤ l.length → l.length ≤ 1000000000 → i ≤ n → Hp.DnI qlt qz l i n → ∃ l' k, itr R37_0 (m + 1) ((l, a, ()), i0, (n : Int), (i : Int), ()) = some ((l', a, ()), i0, k, ()) ∧ Hp.Heap qlt qz l' n ∧ l'.Perm l ∧ l'.length = l.length ∧ ∀ c, n ≤ c → l'.getD c qz = l.getD c qz
  | m, l, i, n, hm, hn, hl, hin, h => by
    by_cases h1 : 2 * i + 1 < n
    rotate_left
    · exact ⟨l, (i : Int), itr_out (dn_leaf a i0 (by omega) hin (by omega)), Hp.dn_end0 h (by omega), .refl _, rfl, fun _ _ => rfl⟩
    have kid := kid_of (l := l) h1
    have hi : i < l.length := by omega
    generalize hjv : (if 2 * i + 2 < n ∧ qlt (l.getD (2 * i + 2) qz) (l.getD (2 * i + 1) qz) = true then 2 * i + 2 else 2 * i + 1) = j at kid
    have hr := dn_round a i0 hn hl h1 hjv
    have hj : j < l.length := by have := kid.2.2.1; omega
    cases hc : qlt (l.getD j qz) (l.getD i qz) with
    | false =>
      rw [hc] at hr
      exact ⟨l, (i : Int), itr_out hr, Hp.dn_end qlw h kid hc, .refl _, rfl, fun _ _ => rfl⟩
    | true =>
      rw [hc] at hr
      have ln := swp_len (z := qz) l i j
      have kj := kid.2.2.1
      have kj1 := kid.1
      have kj0 := kid.2.1
      cases m with
      | zero => omega
      | succ m =>
        obtain ⟨l', k, e, a1, b1, c1, d1⟩ := qDown a i0 m (swp qz l i j) j n (by omega) (by omega) (by omega) (by omega) (Hp.dn_step qlw hn h kid hc)
        refine ⟨l', k, by rw [itr_in hr, e], a1, b1.trans (swp_perm hi hj), by omega, fun x hx => ?_⟩
        rw [d1 x hx, swp_get hi hj, if_neg (by omega), if_neg (by omega)]
theorem qDownN (a : Int) {l : List Qe} {i n : Nat} (hn : n ≤ l.length) (hl : l.length ≤ 1000000000) (hin : i ≤ n) (h : Hp.DnI qlt qz l i n) : ∃ l' k, N37 ((l, a, ()), (i : Int), (n : Int), ()) = some (k, (l', a, ()), ()) ∧ Hp.Heap qlt qz l' n ∧ l'.Perm l ∧ l'.length = l.length ∧ ∀ c, n ≤ c → l'.getD c qz = l.getD c qz := by
  obtain ⟨l', k, e, r⟩ := qDown a (i : Int) n l i n (by omega) hn hl hin h
  refine ⟨l', decide (k > (i : Int)), ?_, r⟩
  unfold N37 M37
  simp only []
  rw [itrs_of e (by omega)]
  rfl
theorem qStay (a : Int) {l : List Qe} {i n : Nat} (hn : n ≤ l.length) (hl : l.length ≤ 1000000000) (hin : i ≤ n) (h : ∀ c, 0 < c → c < n → (c - 1) / 2 = i → qlt (l.getD c qz) (l.getD i qz) = false) : N37 ((l, a, ()), (i : Int), (n : Int), ()) = some (false, (l, a, ()), ()) := by
  have e : itr R37_0 1 ((l, a, ()), (i : Int), (n : Int), (i : Int), ()) = some ((l, a, ()), (i : Int), (i : Int), ()) := by
    by_cases h1 : 2 * i + 1 < n
    rotate_left
    · exact itr_out (dn_leaf a (i : Int) (by omega) hin (by omega))
    have kid := kid_of (l := l) h1
    generalize hjv : (if 2 * i + 2 < n ∧ qlt (l.getD (2 * i + 2) qz) (l.getD (2 * i + 1) qz) = true then 2 * i + 2 else 2 * i + 1) = j at kid
    have hr := dn_round a (i : Int) hn hl h1 hjv
    rw [h j kid.2.1 kid.2.2.1 kid.1] at hr
    exact itr_out hr
  unfold N37 M37
  simp only []
  rw [itrs_of e (by omega)]
  simp only [Option.bind_some]
  rw [decide_eq_false (by omega)]
/-- The last one is taken off. -/
theorem qCut (a : Int) {l : List Qe} {n : Nat} (hn : l.length = n + 1) (hl : l.length ≤ 1000000000) (hh : Hp.Heap qlt qz l n) : N75 ((l, a, ()), ()) = some (l.getD n qz, (l.take n, a, ()), ()) ∧ QHeap (l.take n) ∧ l.Perm (l.getD n qz :: l.take n) ∧ (l.take n).length = n := by
  have lt : (l.take n).length = n := by rw [List.length_take]; omega
  have cut : l = l.take n ++ [l.getD n qz] := by
    rw [getD_get (by omega), ← List.take_succ_eq_append_getElem (by omega), List.take_of_length_le (by omega)]
  refine ⟨?_, ?_, ?_, lt⟩
  · unfold N75 M75
    simp only []
    rw [hn, wsi (by omega), show ((n + 1 : Nat) : Int) - 1 = (n : Int) from by omega, inb (show n < n + 1 by omega)]
    simp only [cond_true, Option.bind_some, Int.toNat_natCast, Nat.sub_zero]
    rw [List.getElem?_eq_getElem (show n < l.length by omega)]
    simp only [Option.bind_some]
    rw [bif_t (show (true && decide (0 ≤ (n : Int)) && decide ((n : Int) ≤ ((n + 1 : Nat) : Int))) = true from by rw [decide_eq_true (show 0 ≤ (n : Int) by omega), decide_eq_true (show (n : Int) ≤ ((n + 1 : Nat) : Int) by omega)]; rfl)]
    simp only [Option.bind_some]
    rw [bif_t (show Nat.ble n (n + 1) = true from Nat.ble_eq_true_of_le (by omega))]
    simp only [Option.bind_some]
    rw [getD_get (show n < l.length by omega)]
  · show Hp.Heap qlt qz (l.take n) (l.take n).length
    rw [lt]
    intro x x0 x1
    have g : ∀ y, y < n → (l.take n).getD y qz = l.getD y qz := fun y hy => by
      rw [List.getD_eq_getElem?_getD, List.getD_eq_getElem?_getD, List.getElem?_take_of_lt hy]
    rw [g x x1, g _ (by omega)]
    exact hh x x0 x1
  · have := List.perm_append_singleton (l.getD n qz) (l.take n)
    rw [← cut] at this
    exact this
theorem qPop (a : Int) {l : List Qe} (h : QHeap l) (h0 : 0 < l.length) (hl : l.length ≤ 1000000000) : ∃ l', N26 ((l, a, ()), ()) = some (l.getD 0 qz, (l', a, ()), ()) ∧ QHeap l' ∧ l.Perm (l.getD 0 qz :: l') ∧ l'.length + 1 = l.length := by
  obtain ⟨n, hn⟩ : ∃ n, l.length = n + 1 := ⟨l.length - 1, by omega⟩
  have hh : Hp.Heap qlt qz l (n + 1) := by rw [← hn]; exact h
  have ln := swp_len (z := qz) l 0 n
  obtain ⟨l1, k, e, a1, b1, c1, d1⟩ := qDownN a (l := swp qz l 0 n) (i := 0) (n := n) (by omega) (by omega) (by omega) (Hp.pop_start hn hh)
  have hl1 : l1.length = n + 1 := by omega
  have last : l1.getD n qz = l.getD 0 qz := by rw [d1 n (Nat.le_refl _), swp_get (by omega) (by omega), if_pos rfl]
  obtain ⟨p1, p2, p3, p4⟩ := qCut a hl1 (by omega) a1
  rw [last] at p1 p3
  refine ⟨l1.take n, ?_, p2, ((swp_perm (z := qz) (show 0 < l.length by omega) (show n < l.length by omega)).symm.trans b1.symm).trans p3, by omega⟩
  have s : N74 (l, 0, (n : Int), ()) = _ := qSwap (l := l) (i := 0) (j := n) (by omega) (by omega)
  have e : N37 ((swp qz l 0 n, a, ()), 0, (n : Int), ()) = _ := e
  unfold N26 M26
  simp only []
  rw [qLen]
  simp only [Option.bind_some]
  rw [hn, wsi (by omega), show ((n + 1 : Nat) : Int) - 1 = (n : Int) from by omega, s]
  simp only [Option.bind_some]
  rw [e]
  simp only [Option.bind_some]
  rw [p1]
  rfl
theorem qRemove (a : Int) {l : List Qe} {i : Nat} (h : QHeap l) (hi : i < l.length) (hl : l.length ≤ 1000000000) : ∃ l', N29 ((l, a, ()), (i : Int), ()) = some (l.getD i qz, (l', a, ()), ()) ∧ QHeap l' ∧ l.Perm (l.getD i qz :: l') ∧ l'.length + 1 = l.length := by
  obtain ⟨n, hn⟩ : ∃ n, l.length = n + 1 := ⟨l.length - 1, by omega⟩
  have hh : Hp.Heap qlt qz l (n + 1) := by rw [← hn]; exact h
  have ew : IntKind.wrap .i64 (((n + 1 : Nat) : Int) - 1) = (n : Int) := by rw [wsi (by omega)]; omega
  by_cases hin : i = n
  · subst hin
    obtain ⟨p1, p2, p3, p4⟩ := qCut a hn hl (fun c c0 c1 => hh c c0 (by omega))
    refine ⟨l.take i, ?_, p2, p3, by omega⟩
    unfold N29 M29
    simp only []
    rw [qLen]
    simp only [Option.bind_some]
    rw [hn, ew, bif_f (show ((i : Int) != (i : Int)) = false by simp), p1]
    rfl
  · have hi1 : i < n := by omega
    have ln := swp_len (z := qz) l i n
    have hin2 : n < l.length := by omega
    have hr := Hp.rm_start qlw hn hi1 hh
    have s := qSwap (l := l) (i := i) (j := n) hi hin2
    have pm : (swp qz l i n).Perm l := swp_perm hi hin2
    have last0 : (swp qz l i n).getD n qz = l.getD i qz := by rw [swp_get hi hin2, if_pos rfl]
    generalize swp qz l i n = L at *
    have fin : ∀ (l1 : List Qe), Hp.Heap qlt qz l1 n → l1.Perm L → l1.length = L.length → (∀ c, n ≤ c → l1.getD c qz = L.getD c qz) → N75 ((l1, a, ()), ()) = some (l.getD i qz, (l1.take n, a, ()), ()) ∧ QHeap (l1.take n) ∧ l.Perm (l.getD i qz :: l1.take n) ∧ (l1.take n).length + 1 = l.length := by
      intro l1 a1 b1 c1 d1
      obtain ⟨p1, p2, p3, p4⟩ := qCut a (l := l1) (n := n) (by omega) (by omega) a1
      rw [d1 n (Nat.le_refl _), last0] at p1 p3
      exact ⟨p1, p2, (pm.symm.trans b1.symm).trans p3, by omega⟩
    by_cases hc : i = 0 ∨ qlt (L.getD i qz) (L.getD ((i - 1) / 2) qz) = false
    · obtain ⟨l1, k, e, a1, b1, c1, d1⟩ := qDownN a (l := L) (i := i) (n := n) (by omega) (by omega) (by omega) (Hp.rm_dn hr hc)
      cases k with
      | true =>
        obtain ⟨f1, f2, f3, f4⟩ := fin l1 a1 b1 c1 d1
        refine ⟨l1.take n, ?_, f2, f3, f4⟩
        unfold N29 M29
        simp only []
        rw [qLen]
        simp only [Option.bind_some]
        rw [hn, ew, bif_t (show ((n : Int) != (i : Int)) = true by simp; omega), s]
        simp only [Option.bind_some]
        rw [e]
        simp only [Option.bind_some, Bool.not_true, cond_false]
        rw [f1]
        rfl
      | false =>
        obtain ⟨l2, e2, a2, b2, c2, d2⟩ := qUpN a (l := l1) (j := i) (n := n) hi1 (by omega) (by omega) (Hp.upn_of_heap qlw hi1 a1)
        obtain ⟨f1, f2, f3, f4⟩ := fin l2 a2 (b2.trans b1) (by omega) (fun c hc => by rw [d2 c hc, d1 c hc])
        refine ⟨l2.take n, ?_, f2, f3, f4⟩
        unfold N29 M29
        simp only []
        rw [qLen]
        simp only [Option.bind_some]
        rw [hn, ew, bif_t (show ((n : Int) != (i : Int)) = true by simp; omega), s]
        simp only [Option.bind_some]
        rw [e]
        simp only [Option.bind_some, Bool.not_false, cond_true]
        rw [e2]
        simp only [Option.bind_some]
        rw [f1]
        rfl
    · have i0 : 0 < i := by omega
      have hc2 : qlt (L.getD i qz) (L.getD ((i - 1) / 2) qz) = true := by
        cases h3 : qlt (L.getD i qz) (L.getD ((i - 1) / 2) qz) with
        | true => rfl
        | false => exact absurd (.inr h3) hc
      obtain ⟨u1, u2⟩ := Hp.rm_up qlw hr i0 hc2
      have e := qStay a (l := L) (i := i) (n := n) (by omega) (by omega) (by omega) u2
      obtain ⟨l2, e2, a2, b2, c2, d2⟩ := qUpN a (l := L) (j := i) (n := n) hi1 (by omega) (by omega) u1
      obtain ⟨f1, f2, f3, f4⟩ := fin l2 a2 b2 (by omega) d2
      refine ⟨l2.take n, ?_, f2, f3, f4⟩
      unfold N29 M29
      simp only []
      rw [qLen]
      simp only [Option.bind_some]
      rw [hn, ew, bif_t (show ((n : Int) != (i : Int)) = true by simp; omega), s]
      simp only [Option.bind_some]
      rw [e]
      simp only [Option.bind_some, Bool.not_false, cond_true]
      rw [e2]
      simp only [Option.bind_some]
      rw [f1]
      rfl
/-- The first one is the least. -/
theorem q_least {l : List Qe} (h : QHeap l) (h0 : 0 < l.length) : l.getD 0 qz ∈ l ∧ ∀ x ∈ l, qlt x (l.getD 0 qz) = false := by
  refine ⟨by rw [getD_get h0]; exact List.getElem_mem h0, fun x hx => ?_⟩
  obtain ⟨c, hc, rfl⟩ := List.getElem_of_mem hx
  have := Hp.heap_least qlw h c c (Nat.le_refl _) hc
  rwa [getD_get hc] at this
end Go.Proofs.Ytdcfpgkgaaobhaa.E
/-
  Sorted lists by a whole order: one for each bag; an element put at its place. No program here, no condition.
-/
namespace Go.Proofs.Ytdcfpgkgaaobhaa.E.So
open Go Go.Sort
set_option linter.unusedVariables false
set_option linter.unusedSimpArgs false
section
variable {α : Type} {lt : α → α → Bool} (T : Tot lt)
def le (lt : α → α → Bool) (x y : α) : Bool := !lt y x
abbrev Srt (lt : α → α → Bool) (l : List α) : Prop := l.Pairwise fun x y => le lt x y = true
include T
theorem le_trans (x y z : α) (h1 : le lt x y = true) (h2 : le lt y z = true) : le lt x z = true := by
  unfold le at *
  simp only [Bool.not_eq_true'] at *
  exact T.swo.ntrans z y x h2 h1
theorem le_total (x y : α) : (le lt x y || le lt y x) = true := by
  unfold le
  cases h1 : lt y x with
  | false => rfl
  | true =>
    cases h2 : lt x y with
    | false => rfl
    | true => have := T.trans x y x h2 h1; rw [T.irr] at this; cases this
theorem le_anti (x y : α) (h1 : le lt x y = true) (h2 : le lt y x = true) : x = y := by
  unfold le at *
  simp only [Bool.not_eq_true'] at *
  exact T.tri x y h2 h1
theorem le_of_lt {x y : α} (h : lt x y = true) : le lt x y = true := by
  have := le_total T x y
  unfold le at *
  rw [h, Bool.not_true, Bool.or_false] at this
  exact this
theorem lt_of_le {x y : α} (h : le lt x y = true) (hn : x ≠ y) : lt x y = true := by
  cases h2 : lt x y with
  | true => rfl
  | false => exact absurd (le_anti T x y h (by unfold le; rw [h2]; rfl)) hn
theorem sorted_one : ∀ {a b : List α}, a.Perm b → Srt lt a → Srt lt b → a = b
  | [], b, h, _, _ => (List.nil_perm.1 h).symm
  | x :: a, [], h, _, _ => absurd h.length_eq (by simp)
  | x :: a, y :: b, h, ha, hb => by
    have ha' := List.pairwise_cons.1 ha
    have hb' := List.pairwise_cons.1 hb
    have e : x = y := by
      have m1 : x ∈ y :: b := h.subset (by simp)
      have m2 : y ∈ x :: a := h.symm.subset (by simp)
      rcases List.mem_cons.1 m1 with m1 | m1
      · exact m1
      · rcases List.mem_cons.1 m2 with m2 | m2
        · exact m2.symm
        · exact le_anti T x y (ha'.1 y m2) (hb'.1 x m1)
    subst e
    rw [sorted_one (List.Perm.cons_inv h) ha'.2 hb'.2]
theorem sort_srt (l : List α) : Srt lt (l.mergeSort (le lt)) := List.pairwise_mergeSort (le_trans T) (le_total T) l
theorem sort_of {l S : List α} (hs : Srt lt S) (hp : S.Perm l) : l.mergeSort (le lt) = S :=
  sorted_one T ((List.mergeSort_perm l _).trans hp.symm) (sort_srt T l) hs
omit T in
/-- An element put ahead of the first that isn't below it. -/
def ins (lt : α → α → Bool) (S : List α) (d : α) : List α := S.takeWhile (fun x => lt x d) ++ [d] ++ S.dropWhile (fun x => lt x d)
omit T in
theorem ins_perm (S : List α) (d : α) : (ins lt S d).Perm (S ++ [d]) := by
  have h : S.takeWhile (fun x => lt x d) ++ S.dropWhile (fun x => lt x d) = S := List.takeWhile_append_dropWhile
  have e : (S.takeWhile (fun x => lt x d) ++ [d] ++ S.dropWhile (fun x => lt x d)).Perm (S.takeWhile (fun x => lt x d) ++ S.dropWhile (fun x => lt x d) ++ [d]) := by
    rw [List.append_assoc, List.append_assoc]
    exact List.Perm.append_left _ List.perm_append_comm
  rw [h] at e
  exact e
omit T in
theorem mem_while {p : α → Bool} : ∀ {S : List α} {x : α}, x ∈ S.takeWhile p → p x = true
  | a :: S, x, h => by
    rw [List.takeWhile_cons] at h
    by_cases hc : p a = true
    · rw [if_pos hc] at h
      rcases List.mem_cons.1 h with rfl | h
      · exact hc
      · exact mem_while h
    · rw [if_neg hc] at h
      cases h
omit T in
theorem drop_while {p : α → Bool} : ∀ {S : List α}, S.dropWhile p = [] ∨ ∃ a U, S.dropWhile p = a :: U ∧ p a = false
  | [] => .inl rfl
  | a :: S => by
    rw [List.dropWhile_cons]
    by_cases hc : p a = true
    · rw [if_pos hc]; exact drop_while
    · rw [if_neg hc]; exact .inr ⟨a, S, rfl, by simpa using hc⟩
theorem ins_srt {S : List α} (h : Srt lt S) (d : α) : Srt lt (ins lt S d) := by
  have hs : S.takeWhile (fun x => lt x d) ++ S.dropWhile (fun x => lt x d) = S := List.takeWhile_append_dropWhile
  have hd := drop_while (p := fun x => lt x d) (S := S)
  have hm : ∀ x, x ∈ S.takeWhile (fun x => lt x d) → le lt x d = true := fun x hx => le_of_lt T (mem_while (p := fun x => lt x d) hx)
  unfold ins
  unfold Srt at *
  rw [← hs] at h
  generalize S.takeWhile (fun x => lt x d) = A at *
  generalize S.dropWhile (fun x => lt x d) = B at *
  rw [List.pairwise_append] at h
  obtain ⟨h1, h2, h3⟩ := h
  have hb : ∀ y ∈ B, le lt d y = true := by
    rcases hd with rfl | ⟨a, U, rfl, ha⟩
    · intro y hy; cases hy
    · have ha : le lt d a = true := by unfold le; rw [ha]; rfl
      intro y hy
      rcases List.mem_cons.1 hy with rfl | hy
      · exact ha
      · exact le_trans T d a y ha ((List.pairwise_cons.1 h2).1 y hy)
  rw [List.append_assoc, List.pairwise_append]
  refine ⟨h1, ?_, fun x hx y hy => ?_⟩
  · rw [List.singleton_append, List.pairwise_cons]
    exact ⟨hb, h2⟩
  · rw [List.singleton_append] at hy
    rcases List.mem_cons.1 hy with rfl | hy
    · exact hm x hx
    · exact h3 x hx y hy
omit T in
theorem cut_while (p : α → Bool) (S : List α) : S.take (S.takeWhile p).length = S.takeWhile p ∧ S.drop (S.takeWhile p).length = S.dropWhile p := by
  have h : S.takeWhile p ++ S.dropWhile p = S := List.takeWhile_append_dropWhile
  generalize S.takeWhile p = A at *
  generalize S.dropWhile p = B at *
  subst h
  exact ⟨by simp, by simp⟩
end
end Go.Proofs.Ytdcfpgkgaaobhaa.E.So
/-
  An agenda: what Add, Next, Pop and Drop do, told by the sorted list of what is due. No condition but the sizes that any machine's memory has.
-/
namespace Go.Proofs.Ytdcfpgkgaaobhaa.E
open Go
set_option linter.unusedVariables false
set_option linter.unusedSimpArgs false
set_option maxRecDepth 100000
open Hp (getD_get)
abbrev QS (l : List Qe) : Prop := So.Srt qlt l
/-- A queue holds what a sorted list holds. -/
structure Ag (q S : List Qe) : Prop where
  h : QHeap q
  s : QS S
  p : S.Perm q
theorem Ag.len {q S : List Qe} (g : Ag q S) : q.length = S.length := g.p.length_eq.symm
theorem ag_nil : Ag [] [] := ⟨fun c c0 c1 => absurd c1 (by simp), .nil, .refl _⟩
theorem ag_head {q S : List Qe} {x : Qe} (g : Ag q (x :: S)) : q.getD 0 qz = x := by
  have h0 : 0 < q.length := by rw [g.len]; simp
  obtain ⟨m, hl⟩ := q_least g.h h0
  have m1 : q.getD 0 qz ∈ x :: S := g.p.symm.subset m
  have m2 : x ∈ q := g.p.subset (by simp)
  refine So.le_anti qTot _ _ (by unfold So.le; rw [hl x m2]; rfl) ?_
  rcases List.mem_cons.1 m1 with e | m1
  · rw [e]; unfold So.le; rw [qTot.irr]; rfl
  · exact (List.pairwise_cons.1 g.s).1 _ m1
/-- Add's error; 0 if the entry is taken. -/
def addE (day kind : Int) (key : ByteArray) (n : Nat) : Int := if kind < 0 then 1 else if kind > 9 then 1 else if (key.size : Int) > 32 then 1 else if day < 0 then 221 else if day > 1000000 then 221 else if (n : Int) ≥ 4096 then 3 else 0
theorem aBad {q S : List Qe} (g : Ag q S) (a day kind : Int) (key : ByteArray) (h : addE day kind key S.length ≠ 0) : N9 ((q, a, ()), day, kind, key, ()) = some (0, addE day kind key S.length, (q, a, ()), ()) := by
  have hl := g.len
  unfold N9 M9
  simp only [bif_p]
  rw [qLen]
  simp only [Option.bind_some]
  rw [hl]
  unfold addE at h ⊢
  repeat' split
  all_goals first | rfl | (exfalso; omega)
theorem aAdd {q S : List Qe} (g : Ag q S) {a : Int} (ha : 0 ≤ a ∧ a ≤ 1000000) {day kind : Int} {key : ByteArray} (h : addE day kind key S.length = 0) : ∃ q', N9 ((q, a, ()), day, kind, key, ()) = some (a + 1, 0, (q', a + 1, ()), ()) ∧ Ag q' (So.ins qlt S (day, kind, key, a + 1)) := by
  have hl := g.len
  have h4 : S.length < 4096 := by
    unfold addE at h
    repeat' split at h
    all_goals omega
  obtain ⟨q', e, k1, k2, k3⟩ := qPush (a + 1) (x := (day, kind, key, a + 1)) g.h (by omega)
  refine ⟨q', ?_, k1, So.ins_srt qTot g.s _, (So.ins_perm _ _).trans ((g.p.append_right _).trans k2.symm)⟩
  unfold N9 M9
  simp only [bif_p]
  rw [qLen]
  simp only [Option.bind_some]
  rw [hl, wsi (n := a + 1) (by omega), e]
  unfold addE at h
  repeat' split
  all_goals first | rfl | (exfalso; omega) | (exfalso; simp_all; done)
theorem aCount {q S : List Qe} (g : Ag q S) (a : Int) : N11 ((q, a, ()), ()) = some ((S.length : Int), (q, a, ()), ()) := by
  rw [← g.len]
  rfl
def nextV (S : List Qe) : Qe := S.headD qz
theorem aNext {q S : List Qe} (g : Ag q S) (a : Int) : N18 ((q, a, ()), ()) = some (nextV S, !S.isEmpty, (q, a, ()), ()) := by
  have hl := g.len
  unfold N18 M18
  simp only []
  rw [aCount g]
  simp only [Option.bind_some]
  cases S with
  | nil =>
    obtain rfl : q = [] := List.eq_nil_of_length_eq_zero (by simpa using hl)
    rfl
  | cons x S =>
    have hh := ag_head g
    have h0 : 0 < q.length := by rw [hl]; simp
    rw [bif_f (show ((((x :: S).length : Nat) : Int) == 0) = false from by simp; omega), bif_t (c := true && decide (0 < (q.length : Int))) (by rw [decide_eq_true (show 0 < (q.length : Int) by omega)]; rfl)]
    simp only [Option.bind_some]
    rw [List.getElem?_eq_getElem h0]
    rw [getD_get h0] at hh
    simp only [Option.bind_some]
    rw [hh]
    rfl
/-- What is due at the front: not yet. -/
theorem aWait {q S : List Qe} (g : Ag q S) (a : Int) {u : Int} (h : S = [] ∨ (nextV S).1 > u) : N13 ((q, a, ()), u, ()) = some (qz, false, (q, a, ()), ()) := by
  unfold N13 M13
  simp only []
  rw [aNext g]
  simp only [Option.bind_some]
  rcases h with rfl | h
  · rfl
  · cases S with
    | nil => rfl
    | cons x S =>
      rw [bif_f (show (!!(x :: S).isEmpty) = false from rfl), bif_t (decide_eq_true h)]
theorem aPop {q S : List Qe} {x : Qe} (g : Ag q (x :: S)) (a : Int) {u : Int} (h : x.1 ≤ u) (hl : S.length ≤ 1000000) : ∃ q', N13 ((q, a, ()), u, ()) = some (x, true, (q', a, ()), ()) ∧ Ag q' S := by
  have hh := ag_head g
  have hlen := g.len
  have h0 : 0 < q.length := by rw [hlen]; simp
  obtain ⟨q', e, k1, k2, k3⟩ := qPop a g.h h0 (by rw [hlen]; simp; omega)
  rw [hh] at e k2
  refine ⟨q', ?_, k1, (List.pairwise_cons.1 g.s).2, List.Perm.cons_inv (g.p.trans k2)⟩
  unfold N13 M13
  simp only []
  rw [aNext g]
  simp only [Option.bind_some]
  rw [bif_f (show (!!(x :: S).isEmpty) = false from rfl), bif_f (show decide ((nextV (x :: S)).1 > u) = false from decide_eq_false (by show ¬ x.1 > u; omega)), e]
  rfl
theorem dIndex_loop (L : List Qe) (hL : L.length ≤ 1000000) (k : Int) : ∀ (n i : Nat), i + n = L.length → (∀ j (h : j < i) (h2 : j < L.length), (L[j].2.2.2 == k) = false) →
    itr R27_0 (n + 1) (L, (k, ()), (L.length : Int), (i : Int), ()) = some (match L.findIdx? (fun x => x.2.2.2 == k) with | some i => .inr ((i : Int), ()) | none => .inl ())
  | 0, i, h, hp => by
    have hno : L.findIdx? (fun x => x.2.2.2 == k) = none := by
      rw [List.findIdx?_eq_none_iff]
      intro r hr
      obtain ⟨j, hj, rfl⟩ := List.getElem_of_mem hr
      exact hp j (by omega) hj
    rw [hno]
    refine itr_out ?_
    unfold R27_0 Q27_0
    simp only []
    rw [bif_f (c := decide ((i : Int) < (L.length : Int))) (decide_eq_false (by omega))]
  | n + 1, i, h, hp => by
    have hi : i < L.length := by omega
    have hg := at_get hi
    have hro : R27_0 (L, (k, ()), (L.length : Int), (i : Int), ()) = bif L[i].2.2.2 == k then some (.inr (.inr ((i : Int), ()))) else some (.inl (L, (k, ()), (L.length : Int), ((i + 1 : Nat) : Int), ())) := by
      unfold R27_0 Q27_0
      simp only []
      rw [bif_t (c := decide ((i : Int) < (L.length : Int))) (decide_eq_true (by omega)), hg]
      simp only [Option.bind_some]
      unfold N28 M28
      simp only [Option.bind_some]
      rw [wsi (n := (i : Int) + 1) (by omega)]
      rfl
    cases hc : (L[i].2.2.2 == k) with
    | true =>
      rw [hc, cond_true] at hro
      have hyes : L.findIdx? (fun x => x.2.2.2 == k) = some i := by
        rw [List.findIdx?_eq_some_iff_getElem]
        exact ⟨hi, hc, fun j hj => by rw [hp j hj (by omega)]; decide⟩
      rw [hyes]
      exact itr_out hro
    | false =>
      rw [hc, cond_false] at hro
      rw [itr_in hro]
      refine dIndex_loop L hL k n (i + 1) (by omega) fun j hj h2 => ?_
      rcases Nat.lt_or_ge j i with h3 | h3
      · exact hp j h3 h2
      · obtain rfl : j = i := by omega
        exact hc
theorem dIndex {L : List Qe} (hL : L.length ≤ 1000000) (k : Int) : N27 (L, (k, ()), ()) = some ((match L.findIdx? (fun x => x.2.2.2 == k) with | some i => (i : Int) | none => -1), ()) := by
  have h := itrs_eq (dIndex_loop L hL k L.length 0 (by omega) (fun j hj => by omega)) rfl (by omega)
  rw [show ((0 : Nat) : Int) = 0 from rfl] at h
  unfold N27 M27
  simp only []
  rw [h]
  cases L.findIdx? (fun x => x.2.2.2 == k) <;> rfl
/-- Without the entries of a number. -/
def drp (k : Int) (S : List Qe) : List Qe := S.filter fun x => !(x.2.2.2 == k)
def hasN (k : Int) (S : List Qe) : Bool := S.any fun x => x.2.2.2 == k
/-- No number stands twice. -/
abbrev Uq (S : List Qe) : Prop := (S.map fun x => x.2.2.2).Nodup
theorem drp_none {k : Int} {S : List Qe} (h : hasN k S = false) : drp k S = S := by
  unfold drp
  rw [List.filter_eq_self]
  intro x hx
  cases hc : (x.2.2.2 == k) with
  | false => rfl
  | true =>
    have : hasN k S = true := List.any_eq_true.2 ⟨x, hx, hc⟩
    rw [h] at this; cases this
theorem hasN_perm {k : Int} {a b : List Qe} (h : a.Perm b) : hasN k a = hasN k b := by
  unfold hasN
  rw [Bool.eq_iff_iff, List.any_eq_true, List.any_eq_true]
  exact ⟨fun ⟨x, h1, h2⟩ => ⟨x, h.subset h1, h2⟩, fun ⟨x, h1, h2⟩ => ⟨x, h.symm.subset h1, h2⟩⟩
theorem drp_cons {k : Int} {x : Qe} {S : List Qe} (hx : x.2.2.2 = k) (hu : Uq (x :: S)) : drp k (x :: S) = S := by
  unfold drp
  rw [List.filter_cons, if_neg (by simp [hx])]
  refine drp_none ?_
  cases hc : hasN k S with
  | false => rfl
  | true =>
    obtain ⟨y, h1, h2⟩ := List.any_eq_true.1 hc
    have := (List.nodup_cons.1 hu).1
    exact absurd (List.mem_map.2 ⟨y, h1, (eq_of_beq h2).trans hx.symm⟩) this
theorem aDrop {q S : List Qe} (g : Ag q S) (a k : Int) (hu : Uq S) (hl : S.length ≤ 1000000) : ∃ q', N16 ((q, a, ()), k, ()) = some (hasN k S, (q', a, ()), ()) ∧ Ag q' (drp k S) := by
  have hlen := g.len
  have e := dIndex (L := q) (by omega) k
  cases hf : q.findIdx? (fun x => x.2.2.2 == k) with
  | none =>
    rw [hf] at e
    have hno : hasN k S = false := by
      rw [hasN_perm g.p]
      cases hc : hasN k q with
      | false => rfl
      | true =>
        obtain ⟨x, h1, h2⟩ := List.any_eq_true.1 hc
        rw [List.findIdx?_eq_none_iff] at hf
        rw [hf x h1] at h2; cases h2
    rw [hno, drp_none hno]
    refine ⟨q, ?_, g⟩
    unfold N16 M16
    simp only []
    rw [e]
    rfl
  | some i =>
    rw [hf] at e
    obtain ⟨hi, hk, _⟩ := List.findIdx?_eq_some_iff_getElem.1 hf
    have hk : q[i].2.2.2 = k := eq_of_beq hk
    obtain ⟨q', e2, k1, k2, k3⟩ := qRemove a g.h hi (by omega)
    rw [getD_get hi] at e2 k2
    have hyes : hasN k S = true := by
      rw [hasN_perm g.p]
      exact List.any_eq_true.2 ⟨q[i], List.getElem_mem hi, by simpa using hk⟩
    have hp := g.p.trans k2
    have hu2 : Uq (q[i] :: q') := (hp.map fun x => x.2.2.2).nodup hu
    have hp2 : (drp k S).Perm q' := by
      have := hp.filter fun x => !(x.2.2.2 == k)
      rw [show (q[i] :: q').filter (fun x => !(x.2.2.2 == k)) = q' from drp_cons hk hu2] at this
      exact this
    refine ⟨q', ?_, k1, List.Pairwise.filter _ g.s, hp2⟩
    unfold N16 M16
    simp only []
    rw [e]
    simp only [Option.bind_some]
    rw [bif_f (show decide ((i : Int) < 0) = false from decide_eq_false (by omega)), e2, hyes]
    rfl
end Go.Proofs.Ytdcfpgkgaaobhaa.E
/-
  The reference's agenda: a sorted list. No condition but the sizes that any machine's memory has.
-/
namespace Go.Proofs.Ytdcfpgkgaaobhaa.E
open Go
set_option linter.unusedVariables false
set_option linter.unusedSimpArgs false
set_option maxRecDepth 100000
theorem rBefore (a b : Qe) : N12 (a, b, ()) = some (qlt a b, ()) := by
  obtain ⟨a1, a2, a3, a4⟩ := a
  obtain ⟨b1, b2, b3, b4⟩ := b
  unfold N12 M12 qlt lexL ltI
  simp only []
  by_cases h1 : a1 = b1
  · subst h1
    rw [bif_f (c := a1 != a1) (by simp), show decide (a1 < a1) = false from decide_eq_false (by omega)]
    by_cases h2 : a2 = b2
    · subst h2
      rw [bif_f (c := a2 != a2) (by simp), show decide (a2 < a2) = false from decide_eq_false (by omega)]
      unfold ltB
      cases hk : (ByteArray.toList a3 == ByteArray.toList b3) with
      | false =>
        simp only [Bool.not_false, cond_true]
        have hne : ByteArray.toList a3 ≠ ByteArray.toList b3 := by rw [← beq_eq_false_iff_ne]; exact hk
        cases h1 : Op.bytesLess (ByteArray.toList a3) (ByteArray.toList b3) with
        | true => rfl
        | false =>
          cases h2 : Op.bytesLess (ByteArray.toList b3) (ByteArray.toList a3) with
          | true => rfl
          | false => exact absurd (totL.tri _ _ h1 h2) hne
      | true =>
        rw [beq_iff_eq] at hk
        rw [hk, totL.irr]
        rfl
    · rw [bif_t (c := a2 != b2) (by simpa using h2)]
      by_cases h4 : a2 < b2
      · rw [decide_eq_true h4]; rfl
      · rw [decide_eq_false h4, show decide (b2 < a2) = true from decide_eq_true (by omega)]; rfl
  · rw [bif_t (c := a1 != b1) (by simpa using h1)]
    by_cases h4 : a1 < b1
    · rw [decide_eq_true h4]; rfl
    · rw [decide_eq_false h4, show decide (b1 < a1) = true from decide_eq_true (by omega)]; rfl
theorem radd_loop (S : List Qe) (hS : S.length ≤ 1000000) (a d0 d1 : Int) (d2 : ByteArray) (d3 : Int) : ∀ (n i : Nat), i + n = S.length → itr R14_0 (n + 1) ((S, a, ()), (d0, d1, d2, d3, ()), (i : Int), ()) = some ((S, a, ()), (d0, d1, d2, d3, ()), ((i + ((S.drop i).takeWhile (fun x => qlt x (d0, d1, d2, d3))).length : Nat) : Int), ())
  | 0, i, h => by
    rw [List.drop_eq_nil_of_le (by omega)]
    refine itr_out ?_
    unfold R14_0 Q14_0
    simp only []
    rw [bif_f (c := decide ((i : Int) < (S.length : Int))) (decide_eq_false (by omega))]
    rfl
  | n + 1, i, h => by
    have hi : i < S.length := by omega
    have hro : R14_0 ((S, a, ()), (d0, d1, d2, d3, ()), (i : Int), ()) = bif qlt S[i] (d0, d1, d2, d3) then some (.inl ((S, a, ()), (d0, d1, d2, d3, ()), ((i + 1 : Nat) : Int), ())) else some (.inr ((S, a, ()), (d0, d1, d2, d3, ()), (i : Int), ())) := by
      have hb := rBefore S[i] (d0, d1, d2, d3)
      unfold R14_0 Q14_0
      simp only []
      rw [bif_t (c := decide ((i : Int) < (S.length : Int))) (decide_eq_true (by omega)), inb hi]
      simp only [Int.toNat_natCast, List.getElem?_eq_getElem hi, Option.bind_some, cond_true]
      rw [show N12 ((S[i].1, S[i].2.1, S[i].2.2.1, S[i].2.2.2), (d0, d1, d2, d3), ()) = _ from hb]
      simp only [Option.bind_some]
      rw [wsi (n := (i : Int) + 1) (by omega)]
      rfl
    rw [List.drop_eq_getElem_cons hi, List.takeWhile_cons]
    cases hc : qlt S[i] (d0, d1, d2, d3) with
    | false =>
      rw [hc] at hro
      rw [if_neg (by simp)]
      exact itr_out hro
    | true =>
      rw [hc] at hro
      rw [if_pos rfl, itr_in hro, radd_loop S hS a d0 d1 d2 d3 n (i + 1) (by omega)]
      simp only [List.length_cons]
      rw [show i + 1 + (List.takeWhile (fun x => qlt x (d0, d1, d2, d3)) (List.drop (i + 1) S)).length = i + ((List.takeWhile (fun x => qlt x (d0, d1, d2, d3)) (List.drop (i + 1) S)).length + 1) by omega]
theorem rBad (S : List Qe) (a day kind : Int) (key : ByteArray) (h : addE day kind key S.length ≠ 0) : N14 ((S, a, ()), day, kind, key, ()) = some (0, addE day kind key S.length, (S, a, ()), ()) := by
  unfold N14 M14
  unfold addE at h ⊢
  simp only [bif_p]
  repeat' split
  all_goals first | rfl | (exfalso; omega) | (exfalso; simp_all; done)
theorem rAdd (S : List Qe) {a : Int} (ha : 0 ≤ a ∧ a ≤ 1000000) {day kind : Int} {key : ByteArray} (h : addE day kind key S.length = 0) : N14 ((S, a, ()), day, kind, key, ()) = some (a + 1, 0, (So.ins qlt S (day, kind, key, a + 1), a + 1, ()), ()) := by
  have h4 : S.length < 4096 := by
    unfold addE at h
    repeat' split at h
    all_goals omega
  have hS : S.length ≤ 1000000 := by omega
  have lp := itrs_eq (radd_loop S hS (a + 1) day kind key (a + 1) S.length 0 (by omega)) rfl (by omega)
  rw [show ((0 : Nat) : Int) = 0 from rfl, List.drop_zero, Nat.zero_add] at lp
  have fin : ∀ (A B : List Qe), S.take A.length = A → S.drop A.length = B → A.length ≤ S.length → B.length ≤ S.length → S.takeWhile (fun x => qlt x (day, kind, key, a + 1)) = A → S.dropWhile (fun x => qlt x (day, kind, key, a + 1)) = B → N14 ((S, a, ()), day, kind, key, ()) = some (a + 1, 0, (So.ins qlt S (day, kind, key, a + 1), a + 1, ()), ()) := by
    intro A B c1 c2 hle hld hA hB
    rw [hA] at lp
    have t2 : List.take (S.length - A.length) B = B := List.take_of_length_le (by rw [← c2, List.length_drop]; omega)
    unfold So.ins
    rw [hA, hB]
    unfold N14 M14
    unfold addE at h
    simp only []
    rw [wsi (n := a + 1) (by omega), lp]
    simp only [Option.bind_some]
    rw [bif_t (c := decide (0 ≤ (A.length : Int)) && decide ((A.length : Int) ≤ (S.length : Int)) && decide ((S.length : Int) ≤ (S.length : Int))) (by rw [decide_eq_true (by omega), decide_eq_true (by omega), decide_eq_true (by omega)]; rfl)]
    simp only [Option.bind_some, Int.toNat_natCast, Nat.sub_zero, c1, c2, t2, Nat.zero_add, List.nil_append]
    rw [bif_t (c := decide (B.length * 40 ≤ 210000000000000)) (decide_eq_true (by omega))]
    simp only [Option.bind_some]
    rw [bif_t (c := true && decide (0 ≤ (A.length : Int)) && decide ((A.length : Int) ≤ (S.length : Int))) (by rw [decide_eq_true (by omega), decide_eq_true (by omega)]; rfl)]
    simp only [Option.bind_some]
    rw [bif_t (c := decide ((A.length + 1) * 40 ≤ 210000000000000) && decide (A.length ≤ S.length)) (by rw [decide_eq_true (by omega), decide_eq_true (by omega)]; rfl)]
    simp only [Option.bind_some]
    rw [bif_t (c := decide (((A ++ [(day, kind, key, a + 1)]).length + B.length) * 40 ≤ 210000000000000)) (by rw [decide_eq_true_eq]; simp only [List.length_append, List.length_singleton]; omega)]
    simp only [Option.bind_some, bif_p]
    repeat' split
    all_goals first | rfl | (exfalso; omega) | (exfalso; simp_all; done)
  obtain ⟨c1, c2⟩ := So.cut_while (fun x => qlt x (day, kind, key, a + 1)) S
  exact fin _ _ c1 c2 (List.takeWhile_sublist _).length_le (List.dropWhile_sublist _).length_le rfl rfl
theorem rNext (S : List Qe) (a : Int) : N19 ((S, a), ()) = some (nextV S, !S.isEmpty, ()) := by
  unfold N19 M19
  cases S with
  | nil => rfl
  | cons x S =>
    simp only []
    rw [bif_f (show ((((x :: S).length : Nat) : Int) == 0) = false from by simp; omega)]
    rfl
theorem rWait {S : List Qe} (a : Int) {u : Int} (h : S = [] ∨ (nextV S).1 > u) : N15 ((S, a, ()), u, ()) = some (qz, false, (S, a, ()), ()) := by
  unfold N15 M15
  cases S with
  | nil => rfl
  | cons x S =>
    rcases h with h | h
    · cases h
    · simp only []
      rw [bif_f (show ((((x :: S).length : Nat) : Int) == 0) = false from by simp; omega), bif_t (show (true && decide (0 < (((x :: S).length : Nat) : Int))) = true from by rw [decide_eq_true (by simp only [List.length_cons]; omega)]; rfl)]
      simp only [Option.bind_some, List.getElem?_cons_zero]
      rw [bif_t (show decide (x.1 > u) = true from decide_eq_true h)]
theorem rPop {S : List Qe} {x : Qe} (a : Int) {u : Int} (h : x.1 ≤ u) : N15 ((x :: S, a, ()), u, ()) = some (x, true, (S, a, ()), ()) := by
  unfold N15 M15
  simp only []
  rw [bif_f (show ((((x :: S).length : Nat) : Int) == 0) = false from by simp; omega), bif_t (show (true && decide (0 < (((x :: S).length : Nat) : Int))) = true from by rw [decide_eq_true (by simp only [List.length_cons]; omega)]; rfl)]
  simp only [Option.bind_some, List.getElem?_cons_zero]
  rw [bif_f (show decide (x.1 > u) = false from decide_eq_false (by omega)), bif_t (show (true && decide (1 ≤ (((x :: S).length : Nat) : Int)) && decide ((((x :: S).length : Nat) : Int) ≤ (((x :: S).length : Nat) : Int))) = true from by rw [decide_eq_true (by simp only [List.length_cons]; omega), decide_eq_true (by omega)]; rfl)]
  simp only [Option.bind_some]
  rw [bif_t (Nat.ble_eq_true_of_le (by simp; omega))]
  simp only [Option.bind_some, Int.toNat_natCast, List.length_cons, Nat.add_sub_cancel, List.drop_succ_cons, List.drop_zero, List.take_length]
theorem rdrop_loop (S : List Qe) (hS : S.length ≤ 1000000) (a k : Int) (hu : Uq S) : ∀ (n i : Nat), i + n = S.length → (∀ j (h : j < i) (h2 : j < S.length), (S[j].2.2.2 == k) = false) →
    itr R17_0 (n + 1) ((S, a, ()), k, (i : Int), ()) = some (bif hasN k S then .inr ((drp k S, a, ()), true, ()) else .inl ((S, a, ()), ()))
  | 0, i, h, hp => by
    have hno : hasN k S = false := by
      cases hc : hasN k S with
      | false => rfl
      | true =>
        obtain ⟨y, h1, h2⟩ := List.any_eq_true.1 hc
        obtain ⟨j, hj, rfl⟩ := List.getElem_of_mem h1
        rw [hp j (by omega) hj] at h2; cases h2
    rw [hno]
    refine itr_out ?_
    unfold R17_0 Q17_0
    simp only []
    rw [bif_f (c := decide ((i : Int) < (S.length : Int))) (decide_eq_false (by omega))]
    rfl
  | n + 1, i, h, hp => by
    have hi : i < S.length := by omega
    have hro : R17_0 ((S, a, ()), k, (i : Int), ()) = bif S[i].2.2.2 == k then some (.inr (.inr ((S.take i ++ S.drop (i + 1), a, ()), true, ()))) else some (.inl ((S, a, ()), k, ((i + 1 : Nat) : Int), ())) := by
      have t2 : List.take (S.length - (i + 1)) (S.drop (i + 1)) = S.drop (i + 1) := List.take_of_length_le (by rw [List.length_drop]; omega)
      unfold R17_0 Q17_0
      simp only []
      rw [bif_t (c := decide ((i : Int) < (S.length : Int))) (decide_eq_true (by omega)), inb hi]
      simp only [Int.toNat_natCast, List.getElem?_eq_getElem hi, Option.bind_some, cond_true]
      rw [wsi (n := (i : Int) + 1) (by omega), show (i : Int) + 1 = ((i + 1 : Nat) : Int) by omega]
      rw [bif_t (c := decide (0 ≤ ((i + 1 : Nat) : Int)) && decide (((i + 1 : Nat) : Int) ≤ (S.length : Int)) && decide ((S.length : Int) ≤ (S.length : Int))) (by rw [decide_eq_true (by omega), decide_eq_true (by omega), decide_eq_true (by omega)]; rfl)]
      simp only [Option.bind_some, Int.toNat_natCast, Nat.sub_zero, t2, Nat.zero_add, List.nil_append]
      rw [bif_t (c := decide ((S.drop (i + 1)).length * 40 ≤ 210000000000000)) (decide_eq_true (by rw [List.length_drop]; omega))]
      simp only [Option.bind_some]
      rw [bif_t (c := true && decide (0 ≤ (i : Int)) && decide ((i : Int) ≤ (S.length : Int))) (by rw [decide_eq_true (by omega), decide_eq_true (by omega)]; rfl)]
      simp only [Option.bind_some]
      rw [bif_t (c := decide ((i + (S.drop (i + 1)).length) * 40 ≤ 210000000000000) && decide (i ≤ S.length)) (by rw [decide_eq_true (by rw [List.length_drop]; omega), decide_eq_true (by omega)]; rfl)]
      simp only [Option.bind_some]
    cases hc : (S[i].2.2.2 == k) with
    | false =>
      rw [hc] at hro
      rw [itr_in hro]
      refine rdrop_loop S hS a k hu n (i + 1) (by omega) fun j hj h2 => ?_
      rcases Nat.lt_or_ge j i with h3 | h3
      · exact hp j h3 h2
      · obtain rfl : j = i := by omega
        exact hc
    | true =>
      rw [hc] at hro
      have hyes : hasN k S = true := List.any_eq_true.2 ⟨S[i], List.getElem_mem hi, hc⟩
      have e : S = S.take i ++ S[i] :: S.drop (i + 1) := by rw [← List.drop_eq_getElem_cons hi, List.take_append_drop]
      have hd : drp k S = S.take i ++ S.drop (i + 1) := by
        have hu2 : Uq (S[i] :: S.drop (i + 1)) := by
          have := hu
          rw [e] at this
          unfold Uq at this
          rw [List.map_append, List.nodup_append] at this
          exact this.2.1
        have h1 : drp k (S.take i) = S.take i := drp_none (by
          cases hc2 : hasN k (S.take i) with
          | false => rfl
          | true =>
            obtain ⟨y, h1, h2⟩ := List.any_eq_true.1 hc2
            obtain ⟨j, hj, rfl⟩ := List.getElem_of_mem h1
            rw [List.length_take] at hj
            rw [List.getElem_take, hp j (by omega) (by omega)] at h2; cases h2)
        have h2 := drp_cons (eq_of_beq hc) hu2
        conv => lhs; rw [e]
        unfold drp at h1 h2 ⊢
        rw [List.filter_append, h1, h2]
      rw [hyes, hd]
      exact itr_out hro
theorem rDrop {S : List Qe} (hS : S.length ≤ 1000000) (a k : Int) (hu : Uq S) : N17 ((S, a, ()), k, ()) = some (hasN k S, (drp k S, a, ()), ()) := by
  have h := itrs_eq (rdrop_loop S hS a k hu S.length 0 (by omega) (fun j hj => by omega)) rfl (by omega)
  rw [show ((0 : Nat) : Int) = 0 from rfl] at h
  unfold N17 M17
  simp only []
  rw [h]
  cases hc : hasN k S with
  | true => rfl
  | false => rw [drp_none hc]; rfl
/-- The same entries: yes, of a list and itself. -/
theorem aSame {L : List Qe} (hL : L.length ≤ 1000000) : N20 (L, L, ()) = some (true, ()) := by
  have lp : itrs R20_0 (L, L, 0, ()) = some (.inl ()) := by
    refine itrs_seq (fun j => (L, L, (j : Int), ())) L.length rfl (fun j hj => ?_) ?_ (by omega)
    · have hg := at_get hj
      unfold R20_0 Q20_0
      simp only []
      rw [bif_t (c := decide ((j : Int) < (L.length : Int))) (decide_eq_true (by omega)), hg]
      simp only [Option.bind_some]
      rw [wsi (n := (j : Int) + 1) (by omega)]
      simp
    · unfold R20_0 Q20_0
      simp only []
      rw [bif_f (c := decide ((L.length : Int) < (L.length : Int))) (decide_eq_false (by omega))]
  unfold N20 M20
  simp only [bne_self_eq_false, cond_false]
  rw [lp]
  rfl
end Go.Proofs.Ytdcfpgkgaaobhaa.E
/-
  All of an agenda in order; what a script leaves. No condition but the sizes that any machine's memory has.
-/
namespace Go.Proofs.Ytdcfpgkgaaobhaa.E
open Go
set_option linter.unusedVariables false
set_option linter.unusedSimpArgs false
set_option maxRecDepth 100000
theorem aAwake : N7 () = some (true, ()) := by kernel_rfl
theorem sortQ_le (l : List Qe) : sortV cmpQ l = l.mergeSort (So.le qlt) := by
  unfold sortV
  rw [ltV]
  rfl
theorem ag_sort {q S : List Qe} (g : Ag q S) : sortV cmpQ q = S := by
  rw [sortQ_le]
  exact So.sort_of qTot g.s g.p
theorem aClone {L : List Qe} (hL : L.length ≤ 1000000) : (cCloneG (e := 30) (F := N23) (τ := τ)).f (L, ()) = some (L, ()) := by
  show (bif L.isEmpty then some ([], ()) else N23 (L, ())) = _
  cases hl : L.isEmpty with
  | true =>
    cases L with
    | nil => rfl
    | cons a l => cases hl
  | false =>
    rw [cond_false]
    unfold N23 M23
    simp only [hl]
    rw [decide_eq_true (by omega)]
    simp
theorem aSort {L : List Qe} (hL : L.length ≤ 1000000) : (cSortG (e := 30) (g := 25) (cf := cmpQ) (τ := τ)).f (L, (), ()) = some (sortV cmpQ L, ()) := by
  show (bif decide (L.length ≤ 4611686018427387903) then some (sortV cmpQ L, ()) else none) = _
  rw [decide_eq_true (by omega)]
  rfl
theorem all_of {L S : List Qe} {a : Int} {c1 : List Qe × Unit → Option (List Qe × Unit)} {c2 : List Qe × Unit × Unit → Option (List Qe × Unit)} (h1 : c1 (L, ()) = some (L, ())) (h2 : c2 (L, (), ()) = some (S, ())) : M10 c1 c2 N25 ((L, a), ()) = some (S, ()) := by
  unfold M10
  simp only []
  rw [h1]
  simp only [Option.bind_some]
  rw [h2]
  rfl
theorem aAll {q S : List Qe} (g : Ag q S) (hS : S.length ≤ 1000000) (a : Int) : N10 ((q, a), ()) = some (S, ()) := by
  have hl : q.length ≤ 1000000 := by rw [g.len]; exact hS
  have h2 := aSort hl
  rw [ag_sort g] at h2
  exact all_of (aClone hl) h2
/-- A loop with an invariant for each round. -/
theorem itrs_ex {α β : Type} {ro : α → Option (α ⊕ β)} (I : Nat → α → Prop) (O : β → Prop) (n : Nat) (hs : ∀ j x, j < n → I j x → ∃ x', ro x = some (.inl x') ∧ I (j + 1) x') (he : ∀ x, I n x → ∃ y, ro x = some (.inr y) ∧ O y) {x : α} (h0 : I 0 x) (hn : n < 18446744073709551616) : ∃ y, itrs ro x = some y ∧ O y := by
  have go : ∀ (m j : Nat) (x : α), j + m = n → I j x → ∃ y, itr ro (m + 1) x = some y ∧ O y := by
    intro m
    induction m with
    | zero =>
      intro j x h hi
      obtain rfl : j = n := by omega
      obtain ⟨y, h1, h2⟩ := he x hi
      exact ⟨y, itr_out h1, h2⟩
    | succ m ih =>
      intro j x h hi
      obtain ⟨x', h1, h2⟩ := hs j x (by omega) hi
      obtain ⟨y, h3, h4⟩ := ih (j + 1) x' (by omega) h2
      exact ⟨y, by rw [itr_in h1, h3], h4⟩
  obtain ⟨y, h1, h2⟩ := go n 0 x (by omega) h0
  exact ⟨y, itrs_of h1 (by omega), h2⟩
/-- The entries of an agenda whose last number is a. -/
structure Ok (S : List Qe) (a : Int) (n : Nat) : Prop where
  u : Uq S
  b : ∀ x ∈ S, x.2.2.2 ≤ a ∧ 0 ≤ x.1 ∧ x.1 ≤ 1000000
  l : S.length ≤ n
  a : 0 ≤ a ∧ a ≤ n
theorem ok_nil : Ok [] 0 0 := ⟨List.nodup_nil, fun x hx => absurd hx (by simp), Nat.le_refl _, by omega⟩
def addS (S : List Qe) (a day kind : Int) (key : ByteArray) : List Qe × Int := if addE day kind key S.length = 0 then (So.ins qlt S (day, kind, key, a + 1), a + 1) else (S, a)
def addN (S : List Qe) (a day kind : Int) (key : ByteArray) : Int := if addE day kind key S.length = 0 then a + 1 else 0
theorem addE_day {day kind : Int} {key : ByteArray} {n : Nat} (h : addE day kind key n = 0) : 0 ≤ day ∧ day ≤ 1000000 := by
  unfold addE at h
  repeat' split at h
  all_goals omega
theorem ok_add {S : List Qe} {a : Int} {n : Nat} (k : Ok S a n) (day kind : Int) (key : ByteArray) : Ok (addS S a day kind key).1 (addS S a day kind key).2 (n + 1) := by
  have h1 := k.l
  have h2 := k.a
  unfold addS
  split
  · rename_i h
    have hd := addE_day h
    have hp := So.ins_perm (lt := qlt) S (day, kind, key, a + 1)
    refine ⟨?_, fun x hx => ?_, by rw [hp.length_eq]; simp; omega, by simp only; omega⟩
    · have : Uq (S ++ [(day, kind, key, a + 1)]) := by
        unfold Uq
        rw [List.map_append, List.nodup_append]
        refine ⟨k.u, by simp, fun x hx y hy => ?_⟩
        obtain ⟨z, h3, rfl⟩ := List.mem_map.1 hx
        have := (k.b z h3).1
        simp only [List.map_cons, List.map_nil, List.mem_singleton] at hy
        omega
      exact (hp.map fun x => x.2.2.2).symm.nodup this
    · rcases List.mem_append.1 (hp.subset hx) with hx | hx
      · have := k.b x hx
        exact ⟨by simp only; omega, this.2⟩
      · rw [List.mem_singleton] at hx
        subst hx
        exact ⟨by simp only; omega, hd⟩
  · exact ⟨k.u, k.b, by simp only; omega, by simp only; omega⟩
theorem ok_sub {S T : List Qe} {a : Int} {n : Nat} (k : Ok S a n) (h : T.Sublist S) : Ok T a (n + 1) := by
  have h1 := k.l
  have h2 := k.a
  have h3 := h.length_le
  exact ⟨(h.map fun x => x.2.2.2).nodup k.u, fun x hx => k.b x (h.subset hx), by omega, by omega⟩
theorem addBoth {q S : List Qe} {a : Int} {n : Nat} (g : Ag q S) (k : Ok S a n) (hn : n ≤ 999999) (day kind : Int) (key : ByteArray) : ∃ q', N9 ((q, a, ()), day, kind, key, ()) = some (addN S a day kind key, addE day kind key S.length, (q', (addS S a day kind key).2, ()), ()) ∧ Ag q' (addS S a day kind key).1 ∧
    N14 ((S, a, ()), day, kind, key, ()) = some (addN S a day kind key, addE day kind key S.length, ((addS S a day kind key).1, (addS S a day kind key).2, ()), ()) := by
  have h2 := k.a
  unfold addN addS
  by_cases h : addE day kind key S.length = 0
  · rw [if_pos h, if_pos h]
    obtain ⟨q', e, g'⟩ := aAdd g (a := a) (by omega) h
    refine ⟨q', by rw [e, h], g', by rw [rAdd S (by omega) h, h]⟩
  · rw [if_neg h, if_neg h]
    exact ⟨q, aBad g a day kind key h, g, rBad S a day kind key h⟩
/-- What is left behind a Pop, and what it answers. -/
def popS (S : List Qe) (u : Int) : List Qe := match S with | [] => [] | x :: T => if x.1 ≤ u then T else x :: T
def popV (S : List Qe) (u : Int) : Qe := match S with | [] => qz | x :: T => if x.1 ≤ u then x else qz
def popB (S : List Qe) (u : Int) : Bool := match S with | [] => false | x :: T => decide (x.1 ≤ u)
theorem popS_sub (S : List Qe) (u : Int) : (popS S u).Sublist S := by
  unfold popS
  split
  · exact .refl _
  · split
    · exact List.sublist_cons_self _ _
    · exact .refl _
theorem popBoth {q S : List Qe} (g : Ag q S) (a u : Int) (hl : S.length ≤ 1000000) : ∃ q', N13 ((q, a, ()), u, ()) = some (popV S u, popB S u, (q', a, ()), ()) ∧ Ag q' (popS S u) ∧ N15 ((S, a, ()), u, ()) = some (popV S u, popB S u, (popS S u, a, ()), ()) := by
  cases S with
  | nil => exact ⟨q, aWait g a (.inl rfl), g, rWait a (.inl rfl)⟩
  | cons x T =>
    unfold popV popB popS
    simp only
    by_cases h : x.1 ≤ u
    · rw [if_pos h, if_pos h, decide_eq_true h]
      obtain ⟨q', e, g'⟩ := aPop g a h (by simp only [List.length_cons] at hl; omega)
      exact ⟨q', e, g', rPop a h⟩
    · rw [if_neg h, if_neg h, decide_eq_false h]
      have h' : (nextV (x :: T)).1 > u := by show x.1 > u; omega
      exact ⟨q, aWait g a (.inr h'), g, rWait a (.inr h')⟩
end Go.Proofs.Ytdcfpgkgaaobhaa.E
/-
  AgendaSorted, told plainly: what is taken out one by one is what All told. No condition.
-/
namespace Go.Proofs.Ytdcfpgkgaaobhaa.E
open Go
set_option linter.unusedVariables false
set_option linter.unusedSimpArgs false
set_option maxRecDepth 100000
theorem as_add {l : List Qe} {j : Nat} (hj : j < l.length) (h6 : j < 600) {q S : List Qe} {a : Int} (g : Ag q S) (k : Ok S a j) (hl : (S.length : Int) = a) : ∃ q' S' a', R3_0 (l, (q, a, ()), a, (j : Int), ()) = some (.inl (l, (q', a', ()), a', ((j + 1 : Nat) : Int), ())) ∧ Ag q' S' ∧ Ok S' a' (j + 1) ∧ (S'.length : Int) = a' := by
  have hg := at_get hj
  have ka := k.a
  have k' := ok_add k l[j].1 l[j].2.1 l[j].2.2.1
  obtain ⟨q1, e1, g1, _⟩ := addBoth g k (by omega) l[j].1 l[j].2.1 l[j].2.2.1
  refine ⟨q1, _, _, ?_, g1, k', ?_⟩
  · unfold R3_0 Q3_0
    simp only []
    rw [bif_t (c := decide ((j : Int) < (l.length : Int))) (decide_eq_true (by omega)), bif_t (c := decide ((j : Int) < 600)) (decide_eq_true (by omega)), hg]
    simp only [Option.bind_some]
    rw [wsi (n := (j : Int) + 1) (by omega), wsi (n := a + 1) (by omega), e1]
    simp only [Option.bind_some]
    unfold addN addS
    by_cases h0 : addE l[j].1 l[j].2.1 l[j].2.2.1 S.length = 0
    · rw [if_pos h0, if_pos h0, h0]
      simp only [beq_self_eq_true, cond_true, bne_self_eq_false, cond_false]
      rfl
    · rw [if_neg h0, if_neg h0]
      have hne : (addE l[j].1 l[j].2.1 l[j].2.2.1 S.length == 0) = false := by simpa using h0
      rw [hne]
      simp only [cond_false, bne_self_eq_false]
      rfl
  · unfold addS
    split
    · simp only
      rw [(So.ins_perm (lt := qlt) S (l[j].1, l[j].2.1, l[j].2.2.1, a + 1)).length_eq, List.length_append, List.length_singleton]
      omega
    · exact hl
theorem strict {S : List Qe} (hs : QS S) (hu : Uq S) {j : Nat} (h0 : 0 < j) (hj : j < S.length) : qlt S[j - 1] S[j] = true := by
  have h1 := (List.pairwise_iff_getElem.1 hs) (j - 1) j (by omega) hj (by omega)
  refine So.lt_of_le qTot h1 fun e => ?_
  have h2 := (List.pairwise_iff_getElem.1 hu) (j - 1) j (by rw [List.length_map]; omega) (by rw [List.length_map]; omega) (by omega)
  rw [List.getElem_map, List.getElem_map, e] at h2
  exact h2 rfl
theorem as_take {S : List Qe} (hs : QS S) (hu : Uq S) {n : Nat} {a : Int} (k : Ok S a n) (hn : n ≤ 600) (ha : (S.length : Int) = a) {j : Nat} (hj : j < S.length) {q : List Qe} (g : Ag q (S.drop j)) : ∃ q', R3_2 ((q, a, ()), a, S, (j : Int), ()) = some (.inl ((q', a, ()), a, S, ((j + 1 : Nat) : Int), ())) ∧ Ag q' (S.drop (j + 1)) := by
  have hl := k.l
  have hb := k.b S[j] (List.getElem_mem hj)
  rw [List.drop_eq_getElem_cons hj] at g
  obtain ⟨q', e2, g'⟩ := aPop g a (u := S[j].1) (Int.le_refl _) (by rw [List.length_drop]; omega)
  have e1 := aWait g a (u := S[j].1 - 1) (.inr (by show S[j].1 > S[j].1 - 1; omega))
  have ew : IntKind.wrap .i64 (S[j].1 - 1) = S[j].1 - 1 := wsi (by omega)
  have b0 := inb hj
  refine ⟨q', ?_, g'⟩
  unfold R3_2 Q3_2
  simp only []
  rw [bif_t (c := decide ((j : Int) < a)) (decide_eq_true (by omega))]
  by_cases h0 : 0 < j
  · have hj1 : j - 1 < S.length := by omega
    have hst := strict hs hu h0 hj
    have hb := rBefore S[j - 1] S[j]
    rw [hst] at hb
    rw [bif_t (c := decide ((j : Int) > 0)) (decide_eq_true (by omega)), wsi (n := (j : Int) - 1) (by omega), show (j : Int) - 1 = ((j - 1 : Nat) : Int) by omega, inb hj1]
    simp only [cond_true, Option.bind_some, Int.toNat_natCast]
    rw [List.getElem?_eq_getElem hj1, inb hj]
    simp only [cond_true, Option.bind_some, Int.toNat_natCast]
    rw [List.getElem?_eq_getElem hj]
    simp only [Option.bind_some]
    rw [show N12 ((S[j - 1].1, S[j - 1].2.1, S[j - 1].2.2.1, S[j - 1].2.2.2), (S[j].1, S[j].2.1, S[j].2.2.1, S[j].2.2.2), ()) = _ from hb]
    simp only [Option.bind_some, Bool.not_true, cond_false]
    rw [ew, e1]
    simp only [Option.bind_some]
    rw [e2]
    simp only [Option.bind_some, Bool.not_true, cond_false, beq_self_eq_true, Bool.and_self]
    rw [wsi (n := (j : Int) + 1) (by omega)]
    rfl
  · rw [bif_f (c := decide ((j : Int) > 0)) (decide_eq_false (by omega)), inb hj]
    simp only [cond_true, Option.bind_some, Int.toNat_natCast]
    rw [List.getElem?_eq_getElem hj]
    simp only [Option.bind_some]
    rw [ew, e1]
    simp only [Option.bind_some]
    rw [e2]
    simp only [Option.bind_some, Bool.not_true, cond_false, beq_self_eq_true, Bool.and_self]
    rw [wsi (n := (j : Int) + 1) (by omega)]
    rfl
theorem pureAgendaSorted : PAgendaSorted := by
  intro l hl
  have lp : ∃ y, itrs R3_0 (l, ([], 0, ()), 0, 0, ()) = some y ∧ ∃ q S a, y = .inl ((q, a, ()), a, ()) ∧ Ag q S ∧ Ok S a 600 ∧ (S.length : Int) = a := by
    refine itrs_ex (fun j x => ∃ q S a, x = (l, (q, a, ()), a, (j : Int), ()) ∧ Ag q S ∧ Ok S a j ∧ (S.length : Int) = a) _ (min l.length 600) ?_ ?_ ⟨[], [], 0, rfl, ag_nil, ok_nil, rfl⟩ (by omega)
    · rintro j x hj ⟨q, S, a, rfl, g, k, ha⟩
      obtain ⟨q', S', a', e, g', k', ha'⟩ := as_add (show j < l.length by omega) (by omega) g k ha
      exact ⟨_, e, q', S', a', rfl, g', k', ha'⟩
    · rintro x ⟨q, S, a, rfl, g, k, ha⟩
      refine ⟨_, ?_, q, S, a, rfl, g, ⟨k.u, k.b, by have := k.l; omega, by have := k.a; omega⟩, ha⟩
      unfold R3_0 Q3_0
      simp only []
      by_cases h : l.length ≤ 600
      · rw [bif_f (c := decide (((min l.length 600 : Nat) : Int) < (l.length : Int))) (decide_eq_false (by omega))]
      · rw [bif_t (c := decide (((min l.length 600 : Nat) : Int) < (l.length : Int))) (decide_eq_true (by omega)), bif_f (c := decide (((min l.length 600 : Nat) : Int) < 600)) (decide_eq_false (by omega))]
  obtain ⟨y, lp, q, S, a, rfl, g, k, ha⟩ := lp
  have hS := k.l
  have lp2 : ∃ y, itrs R3_2 ((q, a, ()), a, S, 0, ()) = some y ∧ ∃ q', y = .inl ((q', a, ()), ()) ∧ Ag q' [] := by
    refine itrs_ex (fun j x => ∃ q', x = ((q', a, ()), a, S, (j : Int), ()) ∧ Ag q' (S.drop j)) _ S.length ?_ ?_ ⟨q, rfl, by rw [List.drop_zero]; exact g⟩ (by omega)
    · rintro j x hj ⟨q1, rfl, g1⟩
      obtain ⟨q2, e, g2⟩ := as_take g.s k.u k (Nat.le_refl _) ha hj g1
      exact ⟨_, e, q2, rfl, g2⟩
    · rintro x ⟨q1, rfl, g1⟩
      refine ⟨_, ?_, q1, rfl, by rw [List.drop_length] at g1; exact g1⟩
      unfold R3_2 Q3_2
      simp only []
      rw [bif_f (c := decide ((S.length : Int) < a)) (decide_eq_false (by omega))]
  obtain ⟨y, lp2, q', rfl, g'⟩ := lp2
  unfold N3 M3
  simp only []
  rw [aAwake]
  simp only [Option.bind_some, Bool.not_true, cond_false]
  rw [show N8 () = some (([], 0, ()), ()) from rfl]
  simp only [Option.bind_some]
  rw [lp]
  simp only [Option.bind_some]
  rw [aAll g (by omega)]
  simp only [Option.bind_some]
  rw [ha]
  simp only [bne_self_eq_false, cond_false]
  rw [aCount g]
  simp only [Option.bind_some]
  rw [ha]
  simp only [bne_self_eq_false, cond_false]
  rw [lp2]
  simp only [Option.bind_some]
  rw [aWait g' a (.inl rfl)]
  simp only [Option.bind_some, Bool.not_false, cond_true]
  rw [aCount g']
  simp only [Option.bind_some]
  rw [bif_t (show ((([] : List Qe).length : Int) == 0) = true from rfl)]
  rw [aAll g' (by simp)]
  rfl
end Go.Proofs.Ytdcfpgkgaaobhaa.E
namespace Go.Proofs.Ytdcfpgkgaaobhaa.E.Row
open Go Go.ChangeShapes Go.WideShapes Go.ChangeAt Go.RowKit Go.Proofs.Ytdcfpgkgaaobhaa
set_option linter.unusedVariables false
set_option maxRecDepth 100000
theorem own : ownKnob Try.prog.godebug = none := by kernel_rfl
theorem laidOut : laidOutB Try.prog = true := by kernel_rfl
theorem came30 : Came κ Try.prog 30 ((.pair (.int .i64) (.pair (.int .i64) (.pair .str (.int .i64)))) : K τ (Int × (Int × (ByteArray × Int)))) W30 := Came.struct Try.underlying30 (by kernel_rfl) (CameFs.cons (o1 := 1) (Q := fun x : Int => (-9223372036854775808 ≤ x ∧ x ≤ 9223372036854775807)) rfl (by kernel_rfl) rfl (Came.i64 Try.underlying2) (CameFs.cons (o1 := 2) (Q := fun x : Int => (-9223372036854775808 ≤ x ∧ x ≤ 9223372036854775807)) rfl (by kernel_rfl) rfl (Came.i64 Try.underlying3) (CameFs.cons (o1 := 3) (Q := fun x : ByteArray => (ByteArray.size x ≤ 140737488351232)) rfl (by kernel_rfl) rfl (Came.string Try.underlying9) (CameFs.one (Q := fun x : Int => (-9223372036854775808 ≤ x ∧ x ≤ 9223372036854775807)) rfl (by kernel_rfl) (Came.i64 Try.underlying3)))))
theorem came22 : Came κ Try.prog 22 (.sl (τ := τ) 30) (fun a : (List (Int × (Int × (ByteArray × Int)))) => (List.length a * Program.bytesOf Try.prog 30 ≤ 140737488351232 ∧ ∀ x ∈ a, W30 x)) := Came.slice (κ := κ) (e := 30) (Q := fun x : (Int × (Int × (ByteArray × Int))) => W30 x) Try.underlying22 (by kernel_rfl) (by kernel_rfl) rfl (show Came κ Try.prog 30 (κ 30) (fun x : (Int × (Int × (ByteArray × Int))) => W30 x) from came30)
theorem lifted (os : Os) (started : os.Started) (H : Type) (enc : TypeId × Value → H) :
    ReturnsInHanded {} Try.checked os 3 .any (Rows.agendaSortedSpec.pre6 enc Try.prog Try.f3 Rows.agendaSortedRow.domain false) (Rows.agendaSortedSpec.post enc Try.prog Try.f3 false true false false) := by
  refine returnsInHanded_of_change_sized (C := Try.checked) own started (by kernel_rfl) Try.func3
    (ChangeSpec.witness6 (enc := enc) (C := Try.checked) false ⟨#[], #[(.slice none 0 0)], []⟩ 8 (by kernel_rfl) (by kernel_rfl) (by kernel_rfl) (by kernel_rfl)) ?_
  intro W base args ds gs before hval0 hW hcnd hsz0 _
  have hsz : (DataW.weightsEach Try.prog (Try.f3.params.toList ++ Rows.agendaSortedSpec.plain.varTypes Try.prog) (ds ++ gs)).all (· ≤ reachBytes) = true := hsz0
  have hval : ∀ (j : Nat) t v, Try.f3.params[j]? = some t → args[j]? = some v → Value.okWide Try.prog W .any base t v := hval0
  have hW' := hW
  obtain ⟨p, q, hA0, hV, rfl, hfz, hnd⟩ := hW
  have hA : DataW.TrodAll enc Try.prog W 0 (fun _ => true) true Try.f3.params.toList args.toList ds p := hA0
  rw [Try.params3] at hA hval hsz
  obtain ⟨v0, vs0, d0, ds0, p0, q0, hargs, rfl, rfl, h0, r0⟩ := trodAll_cons hA
  obtain ⟨rfl, rfl, rfl⟩ := trodAll_nil r0
  obtain rfl : args = #[v0] := by cases args; simp_all
  obtain ⟨rfl, rfl⟩ := trodVars_none hV
  have hwt : ∀ (j : Nat) t d, [22][j]? = some t → [d0][j]? = some d → ∀ n ∈ DataW.weights Try.prog t d, n ≤ reachBytes := fun j t d h1 h2 n hn => by
    have := List.all_eq_true.1 hsz n (weights_each (j := j) (by simpa using (List.getElem?_append_left (l₂ := Rows.agendaSortedSpec.plain.varTypes Try.prog) (List.getElem?_eq_some_iff.1 h1).1).trans h1) (by simpa using h2) n hn)
    simpa using this
  have lt0 : ∀ x ∈ p0, x.block < W.heap.size := by obtain ⟨m, hm⟩ := h0; exact DataW.trod_lt m _ _ _ hm
  obtain ⟨a0, e0, y0⟩ := arg_slice Try.underlying22 came22 (hval 0 22 v0 rfl rfl) h0 (hwt 0 22 d0 rfl rfl)
  have hp : N3 (a0, ()) = some (true, ()) := pureAgendaSorted a0 y0
  refine (law_calls (i := i3) (n := N3) (F := Try.f3) (code := bodyOf Try.f3) s3 (by kernel_rfl) Try.func3 (by kernel_rfl) (by kernel_rfl) hp (argsK_cons e0 argsK_nil)).mono fun e W' ⟨he, bel⟩ => ?_
  subst he
  exact ⟨_, rfl, _, _, _, [], _, [], hW', trodAll_mk1 (shut_bool Try.underlying4 _), (trodAll_cons_mk (Below.trod laidOut (by kernel_rfl) (of_decide_eq_true (by kernel_rfl)) h0 bel lt0) trodAll_mk0), rfl, bel.frame _, fun h => by cases h⟩
theorem over : Rows.agendaSortedRow.holds Try.pinned (OpenSpec.ofChange Rows.agendaSortedSpec) :=
  OpenClaim.holds_of_wide 3 Try.f3 rfl rfl rfl rfl rfl rfl rfl ⟨rfl, rfl, rfl, rfl, rfl⟩ rfl rfl rfl rfl rfl (by kernel_rfl) Try.func3 (by kernel_rfl)
    (of_decide_eq_true (by kernel_rfl)) (by unfold Func.isWrapper; first | (rw [if_pos (by decide +kernel)]; kernel_rfl) | (rw [if_neg (by decide +kernel)]; exact ⟨rfl, rfl⟩))
    (fun os started H enc _ => lifted os started H enc)
theorem proved : Rows.AgendaSortedSaid := over
end Go.Proofs.Ytdcfpgkgaaobhaa.E.Row
namespace Go.Proofs.Ytdcfpgkgaaobhaa
/-- The row, under a short name, for the claim. -/
theorem agendaSorted_holds : Rows.AgendaSortedSaid := Ytdcfpgkgaaobhaa.E.Row.proved
#print axioms agendaSorted_holds
end Go.Proofs.Ytdcfpgkgaaobhaa
