/- The statement VmJoins for every input: the plain facts on the functions' results, and the row. No condition. -/
import Derived.Test.YtaalnjfmcjdimaaGP0
import Derived.Test.YtaalnjfmcjdimaaGF0
import Derived.Test.YtaalnjfmcjdimaaGF1
import Derived.Test.YtaalnjfmcjdimaaRows
import Derived.Test.YtaalnjfmcjdimaaChecked
/-
  Each instruction of an accepted program does what is told of it. No condition but those that the prover has seen to.
-/
namespace Go.Proofs.Ytaalnjfmcjdimaa.E
open Go
set_option linter.unusedVariables false
set_option linter.unusedSimpArgs false
set_option maxRecDepth 100000
/-- What a run begins with. -/
structure Good (p : VPrg) (q : List Int) (u : Wd) : Prop where
  cw : ∀ w ∈ p.2.2.2.1, WB w.1 w.2
  tw : ∀ l ∈ p.2.2.2.2.1, Tiers l
  sw : ∀ z ∈ p.2.2.1, 1 ≤ z ∧ z ≤ 1000000000000
  qw : ∀ x ∈ q, 0 ≤ x ∧ x ≤ 1099511627776
  nw : q.length = p.2.2.1.length
  uw : WB u.1 u.2
/-- What an instruction finds. -/
structure Fits (p : VPrg) (c : Int × Int × Int) (l : List Wd) (a : Int) : Prop where
  b : badInstr c = false
  t : 0 ≤ tkn c.1
  r : c.2.1 < arn p c.1
  k : c.1 < 15 → c.2.2 = 0
  h : tkn c.1 ≤ (l.length : Int)
  n : l.length ≤ 2000
  w : ∀ x ∈ l, WB x.1 x.2
  a : 0 ≤ a ∧ a ≤ 100000
theorem work_1 : workV 1 = N27 := rfl
theorem instr_1 (p : VPrg) (q : List Int) (u : Wd) (l : List Wd) (a : Int) (o : Bool) (c1 c2 : Int) : instrV p q u (1, c1, c2) l a o = (l ++ [p.2.2.2.1.getD c1.toNat (0, 0)], a, o) := rfl
theorem work_2 : workV 2 = N28 := rfl
theorem instr_2 (p : VPrg) (q : List Int) (u : Wd) (l : List Wd) (a : Int) (o : Bool) (c1 c2 : Int) : instrV p q u (2, c1, c2) l a o = (l ++ [ofV (q.getD c1.toNat 0)], a, o) := rfl
theorem work_3 : workV 3 = N29 := rfl
theorem instr_3 (p : VPrg) (q : List Int) (u : Wd) (l : List Wd) (a : Int) (o : Bool) (c1 c2 : Int) : instrV p q u (3, c1, c2) l a o = (l ++ [ofV (blkV (q.getD c1.toNat 0) (p.2.2.1.getD c1.toNat 0))], a, o) := rfl
theorem work_4 : workV 4 = N30 := rfl
theorem instr_4 (p : VPrg) (q : List Int) (u : Wd) (l : List Wd) (a : Int) (o : Bool) (c1 c2 : Int) : instrV p q u (4, c1, c2) l a o = (l.take (l.length - 1) ++ [(ck (-wp_ (l.getD (l.length - 1) (0, 0))) o).1], a, (ck (-wp_ (l.getD (l.length - 1) (0, 0))) o).2) := rfl
theorem work_5 : workV 5 = N31 := rfl
theorem instr_5 (p : VPrg) (q : List Int) (u : Wd) (l : List Wd) (a : Int) (o : Bool) (c1 c2 : Int) : instrV p q u (5, c1, c2) l a o = (l.take (l.length - 2) ++ [(ck (wp_ (l.getD (l.length - 2) (0, 0)) + wp_ (l.getD (l.length - 1) (0, 0))) o).1], a, (ck (wp_ (l.getD (l.length - 2) (0, 0)) + wp_ (l.getD (l.length - 1) (0, 0))) o).2) := rfl
theorem work_6 : workV 6 = N32 := rfl
theorem instr_6 (p : VPrg) (q : List Int) (u : Wd) (l : List Wd) (a : Int) (o : Bool) (c1 c2 : Int) : instrV p q u (6, c1, c2) l a o = (l.take (l.length - 2) ++ [(ck (wp_ (l.getD (l.length - 2) (0, 0)) - wp_ (l.getD (l.length - 1) (0, 0))) o).1], a, (ck (wp_ (l.getD (l.length - 2) (0, 0)) - wp_ (l.getD (l.length - 1) (0, 0))) o).2) := rfl
theorem work_7 : workV 7 = N33 := rfl
theorem instr_7 (p : VPrg) (q : List Int) (u : Wd) (l : List Wd) (a : Int) (o : Bool) (c1 c2 : Int) : instrV p q u (7, c1, c2) l a o = (l.take (l.length - 2) ++ [(ck (wp_ (l.getD (l.length - 2) (0, 0)) * wp_ (l.getD (l.length - 1) (0, 0))) o).1], a, (ck (wp_ (l.getD (l.length - 2) (0, 0)) * wp_ (l.getD (l.length - 1) (0, 0))) o).2) := rfl
theorem work_8 : workV 8 = N34 := rfl
theorem instr_8 (p : VPrg) (q : List Int) (u : Wd) (l : List Wd) (a : Int) (o : Bool) (c1 c2 : Int) : instrV p q u (8, c1, c2) l a o = (l.take (l.length - 2) ++ [bif decide (cmpv (wp_ (l.getD (l.length - 1) (0, 0))) (wp_ (l.getD (l.length - 2) (0, 0))) < 0) then l.getD (l.length - 1) (0, 0) else l.getD (l.length - 2) (0, 0)], a, o) := rfl
theorem work_9 : workV 9 = N35 := rfl
theorem instr_9 (p : VPrg) (q : List Int) (u : Wd) (l : List Wd) (a : Int) (o : Bool) (c1 c2 : Int) : instrV p q u (9, c1, c2) l a o = (l.take (l.length - 2) ++ [bif decide (cmpv (wp_ (l.getD (l.length - 1) (0, 0))) (wp_ (l.getD (l.length - 2) (0, 0))) > 0) then l.getD (l.length - 1) (0, 0) else l.getD (l.length - 2) (0, 0)], a, o) := rfl
theorem work_10 : workV 10 = N36 := rfl
theorem instr_10 (p : VPrg) (q : List Int) (u : Wd) (l : List Wd) (a : Int) (o : Bool) (c1 c2 : Int) : instrV p q u (10, c1, c2) l a o = (l.take (l.length - 1) ++ [(overV (l.getD (l.length - 1) (0, 0)) (p.2.2.2.1.getD c1.toNat (0, 0)) o).1], a, (overV (l.getD (l.length - 1) (0, 0)) (p.2.2.2.1.getD c1.toNat (0, 0)) o).2) := rfl
theorem work_11 : workV 11 = N37 := rfl
theorem instr_11 (p : VPrg) (q : List Int) (u : Wd) (l : List Wd) (a : Int) (o : Bool) (c1 c2 : Int) : instrV p q u (11, c1, c2) l a o = (l.take (l.length - 1) ++ [uptoV (l.getD (l.length - 1) (0, 0)) (p.2.2.2.1.getD c1.toNat (0, 0))], a, o) := rfl
theorem work_12 : workV 12 = N38 := rfl
theorem instr_12 (p : VPrg) (q : List Int) (u : Wd) (l : List Wd) (a : Int) (o : Bool) (c1 c2 : Int) : instrV p q u (12, c1, c2) l a o = (l.take (l.length - 1) ++ [(gradV (p.2.2.2.2.1.getD c1.toNat []) (l.getD (l.length - 1) (0, 0)) u o).1], a, (gradV (p.2.2.2.2.1.getD c1.toNat []) (l.getD (l.length - 1) (0, 0)) u o).2) := rfl
theorem work_13 : workV 13 = N39 := rfl
theorem instr_13 (p : VPrg) (q : List Int) (u : Wd) (l : List Wd) (a : Int) (o : Bool) (c1 c2 : Int) : instrV p q u (13, c1, c2) l a o = (l.take (l.length - 1) ++ [(volV (p.2.2.2.2.1.getD c1.toNat []) (l.getD (l.length - 1) (0, 0)) u o).1], a, (volV (p.2.2.2.2.1.getD c1.toNat []) (l.getD (l.length - 1) (0, 0)) u o).2) := rfl
theorem work_14 : workV 14 = N40 := rfl
theorem instr_14 (p : VPrg) (q : List Int) (u : Wd) (l : List Wd) (a : Int) (o : Bool) (c1 c2 : Int) : instrV p q u (14, c1, c2) l a o = (l.take (l.length - 1) ++ [(offV (l.getD (l.length - 1) (0, 0)) c1 o).1], a, (offV (l.getD (l.length - 1) (0, 0)) c1 o).2) := rfl
theorem work_15 : workV 15 = N41 := rfl
theorem instr_15 (p : VPrg) (q : List Int) (u : Wd) (l : List Wd) (a : Int) (o : Bool) (c1 c2 : Int) : instrV p q u (15, c1, c2) l a o = (l, a + c2, o) := rfl
theorem split1 {l : List Wd} (h : 1 ≤ l.length) : l.take (l.length - 1) ++ [l.getD (l.length - 1) (0, 0)] = l := by
  have h1 : l.length - 1 < l.length := by omega
  rw [getD_at h1]
  have := List.take_append_getElem (l := l) (h := h1)
  rw [this, show l.length - 1 + 1 = l.length by omega, List.take_length]
theorem split2 {l : List Wd} (h : 2 ≤ l.length) : l.take (l.length - 2) ++ [l.getD (l.length - 2) (0, 0), l.getD (l.length - 1) (0, 0)] = l := by
  have h1 : l.length - 1 < l.length := by omega
  have h2 : l.length - 2 < l.length := by omega
  have e1 := split1 (show 1 ≤ l.length by omega)
  have e2 := List.take_append_getElem (l := l) (h := h2)
  rw [show l.length - 2 + 1 = l.length - 1 by omega] at e2
  rw [getD_at h2]
  have e3 : l.take (l.length - 2) ++ [l[l.length - 2], l.getD (l.length - 1) (0, 0)] = (l.take (l.length - 2) ++ [l[l.length - 2]]) ++ [l.getD (l.length - 1) (0, 0)] := by rw [List.append_assoc]; rfl
  rw [e3, e2]
  exact e1
theorem getD_WB {l : List Wd} (h : ∀ x ∈ l, WB x.1 x.2) (k : Nat) : WB (l.getD k (0, 0)).1 (l.getD k (0, 0)).2 := by
  by_cases hk : k < l.length
  · rw [getD_at hk]; exact h _ (List.getElem_mem hk)
  · rw [List.getD_eq_getElem?_getD, List.getElem?_eq_none (by omega)]
    exact WB_zero
theorem Fits.ops {p : VPrg} {c : Int × Int × Int} {l : List Wd} {a : Int} (h : Fits p c l a) : c.1 = 1 ∨ c.1 = 2 ∨ c.1 = 3 ∨ c.1 = 4 ∨ c.1 = 5 ∨ c.1 = 6 ∨ c.1 = 7 ∨ c.1 = 8 ∨ c.1 = 9 ∨ c.1 = 10 ∨ c.1 = 11 ∨ c.1 = 12 ∨ c.1 = 13 ∨ c.1 = 14 ∨ c.1 = 15 ∨ (16 ≤ c.1 ∧ c.1 ≤ 21) := by
  have := h.t
  unfold tkn at this
  split at this
  · omega
  split at this
  · omega
  split at this
  · omega
  · omega
section
variable {p : VPrg} {q : List Int} {u : Wd} {l : List Wd} {a s : Int} {o : Bool} {c : Int × Int × Int}
theorem vWork (g : Good p q u) (f : Fits p c l a) : workV c.1 (mc p q u l a s o, c, ()) = some (mc p q u (instrV p q u c l a o).1 (instrV p q u c l a o).2.1 s (instrV p q u c l a o).2.2, ()) := by
  have hops := f.ops
  obtain ⟨b0, b1, b2⟩ := badInstr_in f.b
  have hr := f.r
  have hh := f.h
  have hn := f.n
  have ha := f.a
  obtain ⟨K, hK⟩ : ∃ K : Nat, c.2.1 = (K : Int) := ⟨c.2.1.toNat, by omega⟩
  have hx := getD_WB f.w (l.length - 1)
  have hy := getD_WB f.w (l.length - 2)
  have ht1 : (l.take (l.length - 1)).length ≤ 999999 := by rw [List.length_take]; omega
  have ht2 : (l.take (l.length - 2)).length ≤ 999999 := by rw [List.length_take]; omega
  obtain ⟨op, c1, c2⟩ := c
  simp only at hops b0 b1 b2 hr hh hK
  subst hK
  have eK : Int.toNat (K : Int) = K := Int.toNat_natCast K
  have con : (op = 1 ∨ op = 10 ∨ op = 11 ∨ 16 ≤ op) → ∃ hk : K < p.2.2.2.1.length, p.2.2.2.1.getD K (0, 0) = p.2.2.2.1[K] ∧ WB p.2.2.2.1[K].1 p.2.2.2.1[K].2 := fun ho => by
    have hk : K < p.2.2.2.1.length := by
      unfold arn at hr
      split at hr
      · omega
      split at hr
      · omega
      split at hr
      · omega
      split at hr
      · omega
      · omega
    exact ⟨hk, getD_at hk, g.cw _ (List.getElem_mem hk)⟩
  have siz : (op = 2 ∨ op = 3) → ∃ (hk : K < q.length) (hs : K < p.2.2.1.length), q.getD K 0 = q[K] ∧ p.2.2.1.getD K 0 = p.2.2.1[K] ∧ (0 ≤ q[K] ∧ q[K] ≤ 1099511627776) ∧ (1 ≤ p.2.2.1[K] ∧ p.2.2.1[K] ≤ 1000000000000) := fun ho => by
    have hs : K < p.2.2.1.length := by
      unfold arn at hr
      split at hr <;> omega
    have hk : K < q.length := by rw [g.nw]; exact hs
    exact ⟨hk, hs, getD_at hk, getD_at hs, g.qw _ (List.getElem_mem hk), g.sw _ (List.getElem_mem hs)⟩
  have tir : (op = 12 ∨ op = 13) → ∃ hk : K < p.2.2.2.2.1.length, p.2.2.2.2.1.getD K [] = p.2.2.2.2.1[K] ∧ Tiers p.2.2.2.2.1[K] := fun ho => by
    have hk : K < p.2.2.2.2.1.length := by
      rcases ho with rfl | rfl <;> (have : (K : Int) < (p.2.2.2.2.1.length : Int) := hr; omega)
    exact ⟨hk, getD_at hk, g.tw _ (List.getElem_mem hk)⟩
  have one : tkn op = 1 → l.take (l.length - 1) ++ [l.getD (l.length - 1) (0, 0)] = l := fun h => split1 (by omega)
  have two : tkn op = 2 → l.take (l.length - 2) ++ [l.getD (l.length - 2) (0, 0), l.getD (l.length - 1) (0, 0)] = l := fun h => split2 (by omega)
  rcases hops with rfl | rfl | rfl | rfl | rfl | rfl | rfl | rfl | rfl | rfl | rfl | rfl | rfl | rfl | rfl | hops
  · rw [work_1, instr_1]
    simp only []
    obtain ⟨k1, k2, k3⟩ := con (by omega)
    rw [eK, k2]
    exact vConst p q u l a s o _ K rfl k1 (by omega)
  · rw [work_2, instr_2]
    simp only []
    obtain ⟨k1, k2, k3, k4, k5, k6⟩ := siz (by omega)
    rw [eK, k3]
    exact vLoad p q u l a s o _ K rfl k1 (by omega) (by omega)
  · rw [work_3, instr_3]
    simp only []
    obtain ⟨k1, k2, k3, k4, k5, k6⟩ := siz (by omega)
    rw [eK, k3, k4]
    exact vBlock p q u l a s o _ K rfl k1 k2 k5 k6 (by omega)
  · rw [work_4, instr_4]
    simp only []
    have := vNeg p q u (l.take (l.length - 1)) a s o (l.getD (l.length - 1) (0, 0)) (4, (K : Int), c2) ht1 hx
    rw [one (by decide)] at this
    exact this
  · rw [work_5, instr_5]
    simp only []
    have := vAdd p q u (l.take (l.length - 2)) a s o (l.getD (l.length - 2) (0, 0)) (l.getD (l.length - 1) (0, 0)) (5, (K : Int), c2) ht2 hy hx
    rw [two (by decide)] at this
    exact this
  · rw [work_6, instr_6]
    simp only []
    have := vSub p q u (l.take (l.length - 2)) a s o (l.getD (l.length - 2) (0, 0)) (l.getD (l.length - 1) (0, 0)) (6, (K : Int), c2) ht2 hy hx
    rw [two (by decide)] at this
    exact this
  · rw [work_7, instr_7]
    simp only []
    have := vMul p q u (l.take (l.length - 2)) a s o (l.getD (l.length - 2) (0, 0)) (l.getD (l.length - 1) (0, 0)) (7, (K : Int), c2) ht2 hy hx
    rw [two (by decide)] at this
    exact this
  · rw [work_8, instr_8]
    simp only []
    have := vLeast p q u (l.take (l.length - 2)) a s o (l.getD (l.length - 2) (0, 0)) (l.getD (l.length - 1) (0, 0)) (8, (K : Int), c2) ht2 hy hx
    rw [two (by decide)] at this
    exact this
  · rw [work_9, instr_9]
    simp only []
    have := vMost p q u (l.take (l.length - 2)) a s o (l.getD (l.length - 2) (0, 0)) (l.getD (l.length - 1) (0, 0)) (9, (K : Int), c2) ht2 hy hx
    rw [two (by decide)] at this
    exact this
  · rw [work_10, instr_10]
    simp only []
    obtain ⟨k1, k2, k3⟩ := con (by omega)
    have := vOver p q u (l.take (l.length - 1)) a s o (l.getD (l.length - 1) (0, 0)) (10, (K : Int), c2) K rfl k1 k3 ht1 hx
    rw [one (by decide), ← k2] at this
    rw [eK]
    exact this
  · rw [work_11, instr_11]
    simp only []
    obtain ⟨k1, k2, k3⟩ := con (by omega)
    have := vUpto p q u (l.take (l.length - 1)) a s o (l.getD (l.length - 1) (0, 0)) (11, (K : Int), c2) K rfl k1 k3 ht1 hx
    rw [one (by decide), ← k2] at this
    rw [eK]
    exact this
  · rw [work_12, instr_12]
    simp only []
    obtain ⟨k1, k2, k3⟩ := tir (by omega)
    have := vGrad p q u (l.take (l.length - 1)) a s o (l.getD (l.length - 1) (0, 0)) (12, (K : Int), c2) K rfl k1 k3 ht1 hx g.uw
    rw [one (by decide), ← k2] at this
    rw [eK]
    exact this
  · rw [work_13, instr_13]
    simp only []
    obtain ⟨k1, k2, k3⟩ := tir (by omega)
    have := vVol p q u (l.take (l.length - 1)) a s o (l.getD (l.length - 1) (0, 0)) (13, (K : Int), c2) K rfl k1 k3 ht1 hx g.uw
    rw [one (by decide), ← k2] at this
    rw [eK]
    exact this
  · rw [work_14, instr_14]
    simp only []
    have hr' : (K : Int) < 10001 := hr
    have := vOff p q u (l.take (l.length - 1)) a s o (l.getD (l.length - 1) (0, 0)) (14, (K : Int), c2) (by simp only; omega) ht1 hx
    rw [one (by decide)] at this
    exact this
  · rw [work_15, instr_15]
    simp only []
    exact vSkip p q u l a s o (15, (K : Int), c2) ha b2
  · obtain ⟨k1, k2, k3⟩ := con (by omega)
    have htk : tkn op = 1 := by unfold tkn; rw [if_pos (by omega)]
    have := vTest p q u (l.take (l.length - 1)) a s o (l.getD (l.length - 1) (0, 0)) (op, (K : Int), c2) K hops rfl k1 k3 ht1 hx ha b2
    rw [one htk, ← k2] at this
    unfold workV instrV
    simp only []
    rw [if_neg (by omega), if_neg (by omega), if_neg (by omega), if_neg (by omega), if_neg (by omega), if_neg (by omega), if_neg (by omega), if_neg (by omega), if_neg (by omega), if_neg (by omega), if_neg (by omega), if_neg (by omega), if_neg (by omega), if_neg (by omega), if_neg (by omega)]
    rw [if_neg (by omega), if_neg (by omega), if_neg (by omega), if_neg (by omega), if_neg (by omega), if_neg (by omega), if_neg (by omega), if_neg (by omega), if_neg (by omega), if_neg (by omega), if_neg (by omega), if_neg (by omega), if_neg (by omega), if_neg (by omega), if_neg (by omega)]
    rw [eK]
    exact this
end
end Go.Proofs.Ytaalnjfmcjdimaa.E
/-
  A run of an accepted program: what the pile holds, where it goes, how long it takes. No condition but those that the prover has seen to.
-/
namespace Go.Proofs.Ytaalnjfmcjdimaa.E
open Go
set_option linter.unusedVariables false
set_option linter.unusedSimpArgs false
set_option maxRecDepth 100000
theorem divans_WB (A m : Int) : WB (divans A 10000 m).1.1 (divans A 10000 m).1.2 := by
  unfold divans
  split
  · exact WB_zero
  split
  · exact WB_zero
  split
  · exact WB_zero
  split
  · rename_i h
    split
    · exact WB_in h
    · cases far A 10000 m with
      | false => exact WB_in h
      | true => exact wans_WB _
  · exact WB_zero
theorem overV_WB (x n : Wd) (o : Bool) : WB (overV x n o).1.1 (overV x n o).1.2 := by
  unfold overV
  simp only
  cases decide (cmpv (wp_ (ck (wp_ x - wp_ n) o).1) 0 < 0) with
  | true => exact WB_zero
  | false => exact ck_WB _ _
theorem uptoV_WB {x n : Wd} (hx : WB x.1 x.2) (hn : WB n.1 n.2) : WB (uptoV x n).1 (uptoV x n).2 := by
  unfold uptoV
  cases decide (cmpv (wp_ n) (wp_ x) < 0) with
  | true => exact hn
  | false => exact hx
theorem gradV_WB (l : List Tr) (x u : Wd) (o : Bool) : WB (gradV l x u o).1.1 (gradV l x u o).1.2 := by
  unfold gradV
  split
  · exact WB_zero
  · exact ck_WB _ _
theorem volV_WB (l : List Tr) (x u : Wd) (o : Bool) : WB (volV l x u o).1.1 (volV l x u o).1.2 := by
  unfold volV
  split
  · exact WB_zero
  · exact ck_WB _ _
theorem pick_WB {x y : Wd} (c : Bool) (hx : WB x.1 x.2) (hy : WB y.1 y.2) : WB (bif c then x else y).1 (bif c then x else y).2 := by cases c <;> assumption
theorem ofV_WB {a : Int} (h : -9223372036854775808 ≤ a ∧ a ≤ 9223372036854775807) : WB (ofV a).1 (ofV a).2 := WB_of h
theorem lay_ok {l : List Wd} {z : Wd} {n : Nat} (hw : ∀ x ∈ l, WB x.1 x.2) (hz : WB z.1 z.2) : ∀ x ∈ l.take n ++ [z], WB x.1 x.2 := fun x hx => by
  rcases List.mem_append.1 hx with hx | hx
  · exact hw x (List.mem_of_mem_take hx)
  · rw [List.mem_singleton.1 hx]; exact hz
theorem lay_ok' {l : List Wd} {z : Wd} (hw : ∀ x ∈ l, WB x.1 x.2) (hz : WB z.1 z.2) : ∀ x ∈ l ++ [z], WB x.1 x.2 := fun x hx => by
  rcases List.mem_append.1 hx with hx | hx
  · exact hw x hx
  · rw [List.mem_singleton.1 hx]; exact hz
section
variable {p : VPrg} {q : List Int} {u : Wd}
/-- What an instruction leaves. -/
structure Left (c : Int × Int × Int) (l : List Wd) (a : Int) (r : List Wd × Int × Bool) : Prop where
  n : (r.1.length : Int) = (l.length : Int) - tkn c.1 + lyn c.1
  w : ∀ x ∈ r.1, WB x.1 x.2
  a : (c.1 ≠ 15 ∧ r.2.1 = a) ∨ (15 ≤ c.1 ∧ r.2.1 = a + c.2.2)
theorem vLeft {c : Int × Int × Int} {l : List Wd} {a : Int} {o : Bool} (g : Good p q u) (f : Fits p c l a) : Left c l a (instrV p q u c l a o) := by
  have hops := f.ops
  have hh := f.h
  have hw := f.w
  have hx := getD_WB f.w (l.length - 1)
  have hy := getD_WB f.w (l.length - 2)
  have hr := f.r
  have hb := badInstr_in f.b
  obtain ⟨op, c1, c2⟩ := c
  simp only at hops hh hr hb
  have hC := getD_WB g.cw c1.toNat
  have one : ∀ z : Wd, tkn op = 1 → ((l.take (l.length - 1) ++ [z]).length : Int) = (l.length : Int) - tkn op + 1 := fun z h => by
    rw [List.length_append, List.length_take, List.length_singleton]; omega
  have two : ∀ z : Wd, tkn op = 2 → ((l.take (l.length - 2) ++ [z]).length : Int) = (l.length : Int) - tkn op + 1 := fun z h => by
    rw [List.length_append, List.length_take, List.length_singleton]; omega
  have zro : ∀ z : Wd, tkn op = 0 → ((l ++ [z]).length : Int) = (l.length : Int) - tkn op + 1 := fun z h => by
    rw [List.length_append, List.length_singleton]; omega
  rcases hops with rfl | rfl | rfl | rfl | rfl | rfl | rfl | rfl | rfl | rfl | rfl | rfl | rfl | rfl | rfl | hops
  · rw [instr_1]; exact ⟨zro _ rfl, lay_ok' hw hC, .inl ⟨by simp, rfl⟩⟩
  · rw [instr_2]
    refine ⟨zro _ rfl, lay_ok' hw (ofV_WB ?_), .inl ⟨by simp, rfl⟩⟩
    have : ∀ k, 0 ≤ q.getD k 0 ∧ q.getD k 0 ≤ 1099511627776 := fun k => by
      by_cases hk : k < q.length
      · rw [getD_at hk]; exact g.qw _ (List.getElem_mem hk)
      · rw [List.getD_eq_getElem?_getD, List.getElem?_eq_none (by omega)]; simp
    have := this c1.toNat
    omega
  · rw [instr_3]
    refine ⟨zro _ rfl, lay_ok' hw (ofV_WB ?_), .inl ⟨by simp, rfl⟩⟩
    have hk : c1.toNat < p.2.2.1.length := by
      have : c1 < (p.2.2.1.length : Int) := hr
      omega
    have hq : c1.toNat < q.length := by rw [g.nw]; exact hk
    have h1 := g.qw _ (List.getElem_mem hq)
    have h2 := g.sw _ (List.getElem_mem hk)
    rw [getD_at hk, getD_at hq]
    unfold blkV
    have h3 : 0 ≤ q[c1.toNat] / p.2.2.1[c1.toNat] := Int.ediv_nonneg h1.1 (by omega)
    have h4 : q[c1.toNat] / p.2.2.1[c1.toNat] ≤ q[c1.toNat] := Int.ediv_le_self _ h1.1
    split <;> omega
  · rw [instr_4]; exact ⟨one _ rfl, lay_ok hw (ck_WB _ _), .inl ⟨by simp, rfl⟩⟩
  · rw [instr_5]; exact ⟨two _ rfl, lay_ok hw (ck_WB _ _), .inl ⟨by simp, rfl⟩⟩
  · rw [instr_6]; exact ⟨two _ rfl, lay_ok hw (ck_WB _ _), .inl ⟨by simp, rfl⟩⟩
  · rw [instr_7]; exact ⟨two _ rfl, lay_ok hw (ck_WB _ _), .inl ⟨by simp, rfl⟩⟩
  · rw [instr_8]; exact ⟨two _ rfl, lay_ok hw (pick_WB _ hx hy), .inl ⟨by simp, rfl⟩⟩
  · rw [instr_9]; exact ⟨two _ rfl, lay_ok hw (pick_WB _ hx hy), .inl ⟨by simp, rfl⟩⟩
  · rw [instr_10]; exact ⟨one _ rfl, lay_ok hw (overV_WB _ _ _), .inl ⟨by simp, rfl⟩⟩
  · rw [instr_11]; exact ⟨one _ rfl, lay_ok hw (uptoV_WB hx hC), .inl ⟨by simp, rfl⟩⟩
  · rw [instr_12]; exact ⟨one _ rfl, lay_ok hw (gradV_WB _ _ _ _), .inl ⟨by simp, rfl⟩⟩
  · rw [instr_13]; exact ⟨one _ rfl, lay_ok hw (volV_WB _ _ _ _), .inl ⟨by simp, rfl⟩⟩
  · rw [instr_14]; exact ⟨one _ rfl, lay_ok hw (divans_WB _ _), .inl ⟨by simp, rfl⟩⟩
  · rw [instr_15]; exact ⟨show (l.length : Int) = (l.length : Int) - 0 + 0 by omega, hw, .inr ⟨by simp, rfl⟩⟩
  · have htk : tkn op = 1 := by unfold tkn; rw [if_pos (by omega)]
    have hly : lyn op = 0 := by unfold lyn; rw [if_pos (by omega)]
    have e : instrV p q u (op, c1, c2) l a o = (l.take (l.length - 1), bif holdsV (cmpv (wp_ (l.getD (l.length - 1) (0, 0))) (wp_ (p.2.2.2.1.getD c1.toNat (0, 0)))) (op - 15) then a else a + c2, o) := by
      unfold instrV
      simp only []
      rw [if_neg (by omega), if_neg (by omega), if_neg (by omega), if_neg (by omega), if_neg (by omega), if_neg (by omega), if_neg (by omega), if_neg (by omega), if_neg (by omega), if_neg (by omega), if_neg (by omega), if_neg (by omega), if_neg (by omega), if_neg (by omega), if_neg (by omega)]
    rw [e]
    refine ⟨?_, fun x hx => hw x (List.mem_of_mem_take hx), ?_⟩
    · simp only
      rw [htk, hly, List.length_take]
      omega
    · simp only
      cases holdsV (cmpv (wp_ (l.getD (l.length - 1) (0, 0))) (wp_ (p.2.2.2.1.getD c1.toNat (0, 0)))) (op - 15) with
      | true => exact .inl ⟨by omega, rfl⟩
      | false => exact .inr ⟨by omega, rfl⟩
/-- An accepted run: the pile, the place, the steps; none where a number is too great. -/
def runV (p : VPrg) (q : List Int) (u : Wd) : Nat → List Wd → Nat → Nat → Option (List Wd × Nat × Nat)
  | 0, l, i, s => some (l, i, s)
  | n + 1, l, i, s => if i < p.2.2.2.2.2.length then
      (if (instrV p q u (p.2.2.2.2.2.getD i (0, 0, 0)) l ((i + 1 : Nat) : Int) false).2.2 = true then none
        else runV p q u n (instrV p q u (p.2.2.2.2.2.getD i (0, 0, 0)) l ((i + 1 : Nat) : Int) false).1 (instrV p q u (p.2.2.2.2.2.getD i (0, 0, 0)) l ((i + 1 : Nat) : Int) false).2.1.toNat (s + 1))
      else some (l, i, s)
/-- What the prover has seen to. -/
structure Seen (p : VPrg) (pl : Pl) (H S : Int) : Prop where
  R : Rg p pl H p.2.2.2.2.2.length
  f : ∀ k, k < p.2.2.2.2.2.length → Fine p pl H k
  z : (pl.getD 0 (-1, 0)).1 = 0
  e : pl.getD p.2.2.2.2.2.length (-1, 0) = (1, S)
  r : ∀ k, k < p.2.2.2.2.2.length → (p.2.2.2.2.2.getD k (0, 0, 0)).2.1 < arn p (opc p k) ∧ (opc p k < 15 → (p.2.2.2.2.2.getD k (0, 0, 0)).2.2 = 0)
theorem vrun_args : ∀ (m i : Nat) (pl : Pl) (most : Int), (vrun p m i pl most).1 = 0 → ∀ k, i ≤ k → k < i + m → (p.2.2.2.2.2.getD k (0, 0, 0)).2.1 < arn p (opc p k) ∧ (opc p k < 15 → (p.2.2.2.2.2.getD k (0, 0, 0)).2.2 = 0)
  | 0, i, pl, most, h, k, h1, h2 => by omega
  | m + 1, i, pl, most, h, k, h1, h2 => by
    by_cases he : (stp p pl most i).1 = 0
    · rw [vrun_go he] at h
      by_cases hk : k = i
      · subst hk
        obtain ⟨_, _, k3, k4, _⟩ := stp_ok he
        exact ⟨by omega, fun ho => by
          by_cases hz : (p.2.2.2.2.2.getD k (0, 0, 0)).2.2 = 0
          · exact hz
          · exact absurd ⟨ho, hz⟩ k4⟩
      · exact vrun_args m (i + 1) _ _ h k (by omega) (by omega)
    · rw [vrun_stop he] at h
      exact absurd h he
theorem seen_of {S H : Int} (hc : chk p = 0) (h : vshape p = ((S, H), 0, ())) : ∃ pl, Seen p pl H S := by
  obtain ⟨pl, R, f, z, e, v⟩ := accepted hc h
  refine ⟨pl, R, f, by rw [z], e, fun k hk => vrun_args _ 0 _ _ (by rw [v]) k (Nat.zero_le _) (by omega)⟩
/-- Where a run stands. -/
structure At (p : VPrg) (pl : Pl) (l : List Wd) (i : Nat) : Prop where
  le : i ≤ p.2.2.2.2.2.length
  h : (pl.getD i (-1, 0)).1 = (l.length : Int)
  w : ∀ x ∈ l, WB x.1 x.2
theorem At.fits {pl : Pl} {H S : Int} {l : List Wd} {i : Nat} (hs : Seen p pl H S) (h : At p pl l i) (hi : i < p.2.2.2.2.2.length) : Fits p (p.2.2.2.2.2.getD i (0, 0, 0)) l ((i + 1 : Nat) : Int) := by
  have f := hs.f i hi
  have hn := hs.R.n
  have hp := hs.R.len
  have hh := (hs.R.hs pl[i] (List.getElem_mem (by omega))).1
  have e := h.h
  rw [getD_at (show i < pl.length by omega)] at e
  refine ⟨?_, f.t, (hs.r i hi).1, (hs.r i hi).2, by have := f.tk; rw [h.h] at this; exact this, by omega, h.w, by omega⟩
  rw [getD_at hi]
  exact hs.R.ins _ (List.getElem_mem hi)
theorem At.next {pl : Pl} {H S : Int} {l : List Wd} {i : Nat} {o : Bool} (hs : Seen p pl H S) (g : Good p q u) (h : At p pl l i) (hi : i < p.2.2.2.2.2.length) :
    At p pl (instrV p q u (p.2.2.2.2.2.getD i (0, 0, 0)) l ((i + 1 : Nat) : Int) o).1 (instrV p q u (p.2.2.2.2.2.getD i (0, 0, 0)) l ((i + 1 : Nat) : Int) o).2.1.toNat ∧
    ((instrV p q u (p.2.2.2.2.2.getD i (0, 0, 0)) l ((i + 1 : Nat) : Int) o).2.1.toNat : Int) = (instrV p q u (p.2.2.2.2.2.getD i (0, 0, 0)) l ((i + 1 : Nat) : Int) o).2.1 ∧ i + 1 ≤ (instrV p q u (p.2.2.2.2.2.getD i (0, 0, 0)) l ((i + 1 : Nat) : Int) o).2.1.toNat ∧
    (pl.getD i (-1, 0)).2 + 1 ≤ (pl.getD (instrV p q u (p.2.2.2.2.2.getD i (0, 0, 0)) l ((i + 1 : Nat) : Int) o).2.1.toNat (-1, 0)).2 := by
  have ff := h.fits hs hi
  have L := vLeft (o := o) g ff
  have hsk := badInstr_in ff.b
  have f := hs.f i hi
  have hlen := hs.R.len
  generalize instrV p q u (p.2.2.2.2.2.getD i (0, 0, 0)) l ((i + 1 : Nat) : Int) o = r at *
  have hG : Goes p i r.2.1.toNat ∧ ((r.2.1.toNat : Nat) : Int) = r.2.1 ∧ i + 1 ≤ r.2.1.toNat := by
    unfold Goes skc opc
    rcases L.a with ⟨h1, h2⟩ | ⟨h1, h2⟩
    · exact ⟨.inl ⟨h1, by omega⟩, by omega, by omega⟩
    · exact ⟨.inr ⟨h1, by omega⟩, by omega, by omega⟩
  obtain ⟨t1, t2, t3⟩ := f.to _ hG.1
  refine ⟨⟨by omega, ?_, L.w⟩, hG.2.1, hG.2.2, t3⟩
  rw [t2, L.n, ← h.h]
  rfl
theorem At.fin {pl : Pl} {H S : Int} {l : List Wd} {i : Nat} (hs : Seen p pl H S) (hA : At p pl l i) (e : i = p.2.2.2.2.2.length) : ∃ x, l = [x] ∧ WB x.1 x.2 := by
  have h := hA.h
  rw [e, hs.e] at h
  match l, h, hA with
  | [x], _, hA => exact ⟨x, rfl, hA.w x (by simp)⟩
  | [], h, _ => exact absurd h (by simp)
  | x :: y :: z, h, _ => exact absurd h (by simp only [List.length_cons]; omega)
/-- Where a run ends. -/
theorem run_end {pl : Pl} {H S : Int} (hs : Seen p pl H S) (g : Good p q u) : ∀ (n : Nat) (l : List Wd) (i s : Nat), p.2.2.2.2.2.length ≤ i + n → At p pl l i → ∀ l' i' s', runV p q u n l i s = some (l', i', s') →
    i' = p.2.2.2.2.2.length ∧ (∃ x, l' = [x] ∧ WB x.1 x.2) ∧ (s' : Int) - s ≤ S - (pl.getD i (-1, 0)).2 ∧ (i < p.2.2.2.2.2.length → s + 1 ≤ s') ∧ s ≤ s'
  | 0, l, i, s, hi, hA, l', i', s', hr => by
    have e : i = p.2.2.2.2.2.length := by have := hA.le; omega
    injection hr with hr
    simp only [Prod.mk.injEq] at hr
    obtain ⟨rfl, rfl, rfl⟩ := hr
    refine ⟨e, hA.fin hs e, ?_, fun h => by omega, Nat.le_refl _⟩
    rw [e, hs.e]
    simp
  | n + 1, l, i, s, hi, hA, l', i', s', hr => by
    unfold runV at hr
    by_cases hlt : i < p.2.2.2.2.2.length
    · rw [if_pos hlt] at hr
      split at hr
      · cases hr
      · obtain ⟨a1, a2, a3, a4⟩ := hA.next (o := false) hs g hlt
        obtain ⟨b1, b2, b3, b4, b5⟩ := run_end hs g n _ _ (s + 1) (by omega) a1 l' i' s' hr
        exact ⟨b1, b2, by omega, fun _ => by omega, by omega⟩
    · rw [if_neg hlt] at hr
      have e : i = p.2.2.2.2.2.length := by have := hA.le; omega
      injection hr with hr
      simp only [Prod.mk.injEq] at hr
      obtain ⟨rfl, rfl, rfl⟩ := hr
      refine ⟨e, hA.fin hs e, ?_, fun h => by omega, Nat.le_refl _⟩
      rw [e, hs.e]
      simp
/-- The machine's loop. -/
theorem vLoop {pl : Pl} {H S : Int} (hs : Seen p pl H S) (g : Good p q u) : ∀ (n : Nat) (l : List Wd) (i s : Nat), p.2.2.2.2.2.length ≤ i + n → s + n ≤ 100000 → At p pl l i →
    itr R13_2 (n + 1) (zp p, mc p q u l (i : Int) (s : Int) false, tbl, ()) = some (match runV p q u n l i s with | none => .inr (0, 0, 10, ()) | some r => .inl (zp p, mc p q u r.1 (r.2.1 : Int) (r.2.2 : Int) false, ()))
  | 0, l, i, s, hi, hn, hA => by
    refine itr_out ?_
    obtain ⟨p0, p1, p2, p3, p4, p5⟩ := p
    obtain ⟨u0, u1⟩ := u
    simp only at hi
    unfold R13_2 Q13_2 mc zp
    simp only []
    rw [bif_f (c := decide ((i : Int) < (p5.length : Int))) (decide_eq_false (by omega))]
    rfl
  | n + 1, l, i, s, hi, hn, hA => by
    unfold runV
    by_cases hlt : i < p.2.2.2.2.2.length
    · rw [if_pos hlt]
      have hsn := hs.R.n
      have ff := hA.fits hs hlt
      have ho : 1 ≤ p.2.2.2.2.2[i].1 ∧ p.2.2.2.2.2[i].1 ≤ 21 := by
        have := ff.ops
        rw [getD_at hlt] at this
        omega
      have e1 := vRound (q := q) (u := u) (l := l) (s := s) hlt (by omega) ho
      have e2 := vWork (s := (s : Int)) (o := false) g ff
      rw [getD_at hlt] at e2 ff ⊢
      rw [e2, Option.bind_some] at e1
      obtain ⟨a1, a2, a3, a4⟩ := hA.next (o := false) hs g hlt
      rw [getD_at hlt] at a1 a2 a3
      have ih := vLoop hs g n _ _ (s + 1) (show p.2.2.2.2.2.length ≤ (instrV p q u p.2.2.2.2.2[i] l ((i + 1 : Nat) : Int) false).2.1.toNat + n by omega) (by omega) a1
      cases ho : (instrV p q u p.2.2.2.2.2[i] l ((i + 1 : Nat) : Int) false).2.2 with
      | true =>
        rw [if_pos rfl]
        refine itr_out ?_
        rw [e1]
        unfold nextV mc
        simp only []
        rw [ho]
        rfl
      | false =>
        rw [if_neg (by decide), ← ih]
        refine itr_in ?_
        rw [e1]
        unfold nextV mc
        simp only []
        rw [ho, cond_false, a2, wsi (n := (s : Int) + 1) (by omega)]
        rfl
    · rw [if_neg hlt]
      refine itr_out ?_
      obtain ⟨p0, p1, p2, p3, p4, p5⟩ := p
      obtain ⟨u0, u1⟩ := u
      simp only at hlt
      unfold R13_2 Q13_2 mc zp
      simp only []
      rw [bif_f (c := decide ((i : Int) < (p5.length : Int))) (decide_eq_false (by omega))]
end
end Go.Proofs.Ytaalnjfmcjdimaa.E
/-
  What a decoded program's numbers are. No condition but the sizes that any machine's memory has.
-/
namespace Go.Proofs.Ytaalnjfmcjdimaa.E
open Go
set_option linter.unusedVariables false
set_option linter.unusedSimpArgs false
set_option maxRecDepth 100000
theorem gives_wide2 : ∀ l a r, Bs l → pWide l = some (a, r) → WB a.1 a.2 := by
  intro l a r hb hr
  obtain ⟨x, l1, h1, hr⟩ := bind_some hr
  obtain ⟨y, l2, h2, hr⟩ := bind_some hr
  obtain ⟨rfl, rfl⟩ := ret_some hr
  obtain ⟨e1, b1, n0, n1⟩ := writes_pnum 8 l x l1 hb h1
  unfold WB sw64
  simp only
  rw [ws]
  omega
theorem gives_prg2 {l : List Int} {p : Prg} {r : List Int} (hb : Bs l) (hr : pPrg l = some (p, r)) : ∀ w ∈ p.2.2.2.1, WB w.1 w.2 := by
  obtain ⟨mode, l1, h1, hr⟩ := bind_some hr
  obtain ⟨scale, l2, h2, hr⟩ := bind_some hr
  obtain ⟨sizes, l3, h3, hr⟩ := bind_some hr
  obtain ⟨consts, l4, h4, hr⟩ := bind_some hr
  obtain ⟨scales, l5, h5, hr⟩ := bind_some hr
  obtain ⟨code, l6, h6, hr⟩ := bind_some hr
  obtain ⟨rfl, rfl⟩ := ret_some hr
  obtain ⟨e1, b1, n0, n1⟩ := writes_pnum 1 l mode l1 hb h1
  obtain ⟨e2, b2, m0, m1⟩ := writes_pnum 1 l1 scale l2 b1 h2
  have b3 := b2.tail (writes_many writes_size 1 l2 sizes l3 b2 h3)
  obtain ⟨n, k1, g1, h4⟩ := bind_some h4
  obtain ⟨_, b4, _, _⟩ := writes_pnum 2 l3 n k1 b3 g1
  exact gives_rep writes_wide gives_wide2 n.toNat k1 consts l4 b4 h4
theorem decans_WB {b : List Int} (hb : Bs b) {p : Prg} (h : decans b = (p, 0, ())) : chk p = 0 ∧ ∀ w ∈ p.2.2.2.1, WB w.1 w.2 := by
  unfold decans at h
  cases hm : magic b with
  | false => rw [hm] at h; simp at h
  | true =>
    rw [hm] at h
    simp only [cond_true] at h
    split at h
    · rename_i p' hp
      by_cases hc : chk p' = 0
      · rw [hc] at h
        simp only [bne_self_eq_false, cond_false, Prod.mk.injEq, and_true] at h
        subst h
        exact ⟨hc, gives_prg2 (hb.drop 4) hp⟩
      · rw [bif_t (show (chk p' != 0) = true from by simpa using hc)] at h
        simp at h
    · simp at h
theorem tiersOk_Tiers {l : List (Int × Int)} (h : tiersOk l = true) : Tiers l ∧ ∀ j, j < l.length → (0 ≤ from_ l j ∧ from_ l j ≤ 1000000000000) ∧ (-1000000000000 ≤ rate_ l j ∧ rate_ l j ≤ 1000000000000) ∧ (0 < j → from_ l (j - 1) < from_ l j) := by
  have hn := tiersOk_len h
  unfold tiersOk at h
  cases h1 : decide ((l.length : Int) < 1) with
  | true => rw [h1] at h; cases h
  | false =>
    rw [h1] at h
    cases h2 : decide ((l.length : Int) > 16) with
    | true => rw [h2] at h; cases h
    | false =>
      rw [h2] at h
      simp only [cond_false] at h
      cases h3 : ((l.getD 0 (0, 0)).1 != 0) with
      | true => rw [h3] at h; cases h
      | false =>
        rw [h3] at h
        simp only [cond_false, Bool.not_eq_true'] at h
        rw [List.any_eq_false] at h
        have z0 : from_ l 0 = 0 := by unfold from_; simpa using h3
        have all : ∀ j, j < l.length → (0 ≤ from_ l j ∧ from_ l j ≤ 1000000000000) ∧ (-1000000000000 ≤ rate_ l j ∧ rate_ l j ≤ 1000000000000) ∧ (0 < j → from_ l (j - 1) < from_ l j) := by
          intro j
          induction j with
          | zero =>
            intro hj
            have := h 0 (by rw [List.mem_range'_1]; omega)
            unfold badTier at this
            simp only [Bool.not_eq_true, Bool.or_eq_false_iff, decide_eq_false_iff_not] at this
            unfold from_ rate_ at *
            omega
          | succ j ih =>
            intro hj
            have ih := ih (by omega)
            have := h (j + 1) (by rw [List.mem_range'_1]; omega)
            unfold badTier at this
            simp only [Bool.not_eq_true, Bool.or_eq_false_iff, Bool.and_eq_false_iff, decide_eq_false_iff_not, Nat.add_sub_cancel] at this
            unfold from_ rate_ at *
            rw [Nat.add_sub_cancel]
            omega
        refine ⟨⟨by omega, fun t ht => ?_⟩, all⟩
        obtain ⟨j, hj, rfl⟩ := List.getElem_of_mem ht
        have := all j hj
        unfold from_ rate_ at this
        rw [getD_at hj] at this
        omega
theorem chk_nums {p : Prg} (h : chk p = 0) : (∀ s ∈ p.2.2.1, 1 ≤ s ∧ s ≤ 1000000000000) ∧ (∀ l ∈ p.2.2.2.2.1, tiersOk l = true) ∧ 1 ≤ p.2.2.1.length := by
  unfold chk at h
  obtain ⟨_, h⟩ := bif_zero (by decide) h
  obtain ⟨_, h⟩ := bif_zero (by decide) h
  obtain ⟨_, h⟩ := bif_zero (by decide) h
  obtain ⟨_, h⟩ := bif_zero (by decide) h
  obtain ⟨k0, h⟩ := bif_zero (by decide) h
  obtain ⟨_, h⟩ := bif_zero (by decide) h
  obtain ⟨k1, h⟩ := bif_zero (by decide) h
  obtain ⟨_, h⟩ := bif_zero (by decide) h
  obtain ⟨_, h⟩ := bif_zero (by decide) h
  obtain ⟨_, h⟩ := bif_zero (by decide) h
  obtain ⟨k2, h⟩ := bif_zero (by decide) h
  rw [List.any_eq_false] at k1 k2
  have k0 := of_decide_eq_false k0
  refine ⟨fun s hs => ?_, fun l hl => ?_, by omega⟩
  · obtain ⟨j, hj, rfl⟩ := List.getElem_of_mem hs
    have := k1 j (by rw [List.mem_range'_1]; omega)
    rw [getD_at hj] at this
    unfold badSize at this
    simp only [Bool.not_eq_true, Bool.or_eq_false_iff, decide_eq_false_iff_not] at this
    omega
  · obtain ⟨j, hj, rfl⟩ := List.getElem_of_mem hl
    have := k2 j (by rw [List.mem_range'_1]; omega)
    rw [getD_at hj] at this
    simpa using this
/-! ### powers, and numbers of 64 bits -/
def unitV (k : Int) : Wd := ofV (10000 ^ k.toNat)
def intans (v : Int) : Int × Bool × Unit := if -9223372036854775808 ≤ v ∧ v ≤ 9223372036854775807 then (v, true, ()) else (0, false, ())
theorem vPow0 : N20 (0, ()) = some (unitV 0, 0, ()) := by kernel_rfl
theorem vPow1 : N20 (1, ()) = some (unitV 1, 0, ()) := by kernel_rfl
theorem vPow2 : N20 (2, ()) = some (unitV 2, 0, ()) := by kernel_rfl
theorem vPow3 : N20 (3, ()) = some (unitV 3, 0, ()) := by kernel_rfl
theorem vPow4 : N20 (4, ()) = some (unitV 4, 0, ()) := by kernel_rfl
theorem vPow5 : N20 (5, ()) = some (unitV 5, 0, ()) := by kernel_rfl
theorem vPow6 : N20 (6, ()) = some (unitV 6, 0, ()) := by kernel_rfl
theorem vPower {k : Int} (h : 0 ≤ k ∧ k ≤ 6) : N20 (k, ()) = some (unitV k, 0, ()) := by
  have : k = 0 ∨ k = 1 ∨ k = 2 ∨ k = 3 ∨ k = 4 ∨ k = 5 ∨ k = 6 := by omega
  rcases this with rfl | rfl | rfl | rfl | rfl | rfl | rfl
  · exact vPow0
  · exact vPow1
  · exact vPow2
  · exact vPow3
  · exact vPow4
  · exact vPow5
  · exact vPow6
theorem unitV_ok {k : Int} (h : 0 ≤ k ∧ k ≤ 6) : WB (unitV k).1 (unitV k).2 ∧ wp_ (unitV k) = 10000 ^ k.toNat ∧ 1 ≤ (10000 : Int) ^ k.toNat ∧ (10000 : Int) ^ k.toNat ≤ 1000000000000000000000000 := by
  have h2 : 1 ≤ (10000 : Int) ^ k.toNat ∧ (10000 : Int) ^ k.toNat ≤ 1000000000000000000000000 := by
    have : k = 0 ∨ k = 1 ∨ k = 2 ∨ k = 3 ∨ k = 4 ∨ k = 5 ∨ k = 6 := by omega
    rcases this with rfl | rfl | rfl | rfl | rfl | rfl | rfl <;> decide
  refine ⟨?_, wp_of _, h2⟩
  unfold unitV ofV
  exact WB_in (by omega)
theorem vInt {h l : Int} (b : WB h l) : N23 ((h, l), ()) = some (intans (wv h l)) := by
  have b' := b
  unfold WB at b
  unfold N23 M23 intans wv
  simp only []
  rw [ws]
  have hd : Int.fdiv ((l + 9223372036854775808) % 18446744073709551616 - 9223372036854775808) 9223372036854775808 = ((l + 9223372036854775808) % 18446744073709551616 - 9223372036854775808) / 9223372036854775808 := fdiv_pos (by omega)
  rw [hd, bif_ne]
  split <;> split
  · have : (l + 9223372036854775808) % 18446744073709551616 - 9223372036854775808 = h * 18446744073709551616 + l := by omega
    rw [this]
  · exfalso; omega
  · exfalso; omega
  · rfl
/-- The price of what a program comes to: a quotient's error, its number, whether it has 64 bits. -/
def quotQ (e n : Int) (ok : Bool) : Int × Int := if e ≠ 0 then (0, 102) else if ok = false then (0, 102) else if n < -1000000000000000 then (0, 102) else if n > 1000000000000000 then (0, 102) else (n, 0)
def quotV (x u : Wd) (mode : Int) : Int × Int := quotQ (divans (wp_ x) (wp_ u) mode).2.1 (intans (wp_ (divans (wp_ x) (wp_ u) mode).1)).1 (intans (wp_ (divans (wp_ x) (wp_ u) mode).1)).2.1
theorem quot_eq (e n s : Int) (ok : Bool) : (bif e != 0 then (some ((0 : Int), s, (102 : Int), ()) : Option (Int × Int × Int × Unit)) else bif !ok then some (0, s, 102, ()) else bif decide (n < -1000000000000000) then some (0, s, 102, ()) else bif decide (n > 1000000000000000) then some (0, s, 102, ()) else some (n, s, 0, ())) = some ((quotQ e n ok).1, s, (quotQ e n ok).2, ()) := by
  unfold quotQ
  rw [bif_ne]
  by_cases he : e = 0
  · rw [if_pos he, if_neg (show ¬ e ≠ 0 by omega)]
    cases ok with
    | false => rfl
    | true =>
      rw [if_neg (show ¬ (true : Bool) = false by decide), bif_p, bif_p, Bool.not_true, cond_false]
      by_cases h1 : n < -1000000000000000
      · rw [if_pos h1, if_pos h1]
      · rw [if_neg h1, if_neg h1]
        by_cases h2 : n > 1000000000000000
        · rw [if_pos h2, if_pos h2]
        · rw [if_neg h2, if_neg h2]
  · rw [if_neg he, if_pos (show e ≠ 0 from he)]
def badQty (x : Int) : Bool := decide (x < 0) || decide (x > 1099511627776)
/-- What a run answers: the price, the steps, the error. -/
def runans (b q : List Int) : Int × Int × Int × Unit :=
  if (vans b).2.1 ≠ 0 then (0, 0, (vans b).2.1, ())
  else if (q.length : Int) ≠ ((decans b).1.2.2.1.length : Int) then (0, 0, 100, ())
  else bif (List.range' 0 q.length).any (fun j => badQty (q.getD j 0)) then (0, 0, 101, ())
  else match runV (decans b).1 q (unitV (decans b).1.2.1) (decans b).1.2.2.2.2.2.length [] 0 0 with
    | none => (0, 0, 10, ())
    | some r => ((quotV (r.1.getD 0 (0, 0)) (unitV (decans b).1.2.1) (decans b).1.1).1, (r.2.2 : Int), (quotV (r.1.getD 0 (0, 0)) (unitV (decans b).1.2.1) (decans b).1.1).2, ())
end Go.Proofs.Ytaalnjfmcjdimaa.E
/-
  What a run answers. No condition but the sizes that any machine's memory has.
-/
namespace Go.Proofs.Ytaalnjfmcjdimaa.E
open Go
set_option linter.unusedVariables false
set_option linter.unusedSimpArgs false
set_option maxRecDepth 100000
/-- What is known of bytes that may run. -/
structure Runs (b : List Int) (p : Prg) (S H : Int) (pl : Pl) : Prop where
  d : decans b = (p, 0, ())
  c : chk p = 0
  v : vans b = ((S, H), 0, ())
  s : Seen p pl H S
  w : ∀ w ∈ p.2.2.2.1, WB w.1 w.2
theorem runs_of {b : List Int} (hb : Bs b) (h : (vans b).2.1 = 0) : ∃ p S H pl, Runs b p S H pl := by
  have h0 : (decans b).2.1 = 0 := by
    unfold vans at h
    by_cases hd : (decans b).2.1 = 0
    · exact hd
    · rw [if_pos hd] at h
      exact absurd h hd
  obtain ⟨p, e, he, _⟩ := decans_two hb
  rw [he] at h0
  simp only at h0
  subst h0
  obtain ⟨hc, hw⟩ := decans_WB hb he
  have hv : vans b = vshape p := by
    unfold vans
    rw [he, if_neg (by simp)]
  rw [hv] at h
  generalize hs : vshape p = V at *
  obtain ⟨⟨S, H⟩, e2, ⟨⟩⟩ := V
  simp only at h
  subst h
  obtain ⟨pl, hp⟩ := seen_of hc hs
  exact ⟨p, S, H, pl, he, hc, hv, hp, hw⟩
theorem Runs.good {b q : List Int} {p : Prg} {S H : Int} {pl : Pl} (h : Runs b p S H pl) (hn : q.length = p.2.2.1.length) (hq : (List.range' 0 q.length).any (fun j => badQty (q.getD j 0)) = false) : Good p q (unitV p.2.1) := by
  obtain ⟨n1, n2, n3⟩ := chk_nums h.c
  refine ⟨h.w, fun l hl => (tiersOk_Tiers (n2 l hl)).1, n1, fun x hx => ?_, hn, (unitV_ok (chk_more h.c).2.1).1⟩
  obtain ⟨j, hj, rfl⟩ := List.getElem_of_mem hx
  rw [List.any_eq_false] at hq
  have := hq j (by rw [List.mem_range'_1]; omega)
  rw [getD_at hj] at this
  unfold badQty at this
  simp only [Bool.not_eq_true, Bool.or_eq_false_iff, decide_eq_false_iff_not] at this
  omega
theorem v_qty {q : List Int} {p : Prg} (hl : q.length ≤ 140737488355328) : itrs R13_0 (q, zp p, q, (q.length : Int), 0, ()) = some (bif (List.range' 0 q.length).any (fun j => badQty (q.getD j 0)) then Sum.inr (0, 0, 101, ()) else Sum.inl (q, zp p, ())) := by
  obtain ⟨p0, p1, p2, p3, p4, p5⟩ := p
  refine itrs_any (fun j => (q, zp (p0, p1, p2, p3, p4, p5), q, (q.length : Int), (j : Int), ())) (fun j => badQty (q.getD j 0)) (Sum.inr (0, 0, 101, ())) (Sum.inl (q, zp (p0, p1, p2, p3, p4, p5), ())) q.length rfl (fun j hj => ?_) ?_ (by omega)
  · have hg := at_get hj
    unfold R13_0 Q13_0 zp
    simp only []
    rw [bif_t (c := decide ((j : Int) < (q.length : Int))) (decide_eq_true (by omega)), hg, getD_at hj]
    simp only [Option.bind_some]
    rw [wsi (n := (j : Int) + 1) (by omega)]
    unfold badQty
    cases decide (q[j] < 0) <;> cases decide (q[j] > 1099511627776) <;> rfl
  · unfold R13_0 Q13_0 zp
    simp only []
    rw [bif_f (c := decide ((q.length : Int) < (q.length : Int))) (decide_eq_false (by omega))]
theorem divans_WB2 (A B m : Int) : WB (divans A B m).1.1 (divans A B m).1.2 := by
  unfold divans
  split
  · exact WB_zero
  split
  · exact WB_zero
  split
  · exact WB_zero
  split
  · rename_i h
    split
    · exact WB_in h
    · cases far A B m with
      | false => exact WB_in h
      | true => exact wans_WB _
  · exact WB_zero
theorem vRun {b q : List Int} (hb : Bl b) (hq : q.length ≤ 140737488355328) : N13 (b, q, ()) = some (runans b q) := by
  have e1 := eVerify hb
  have e2 := eDecode hb
  unfold N13 M13 runans
  simp only []
  rw [e1]
  by_cases hv : (vans b).2.1 = 0
  · rw [if_neg (by simpa using hv)]
    obtain ⟨p, S, H, pl, hr⟩ := runs_of hb.1 hv
    have e3 := v_qty (q := q) (p := p) hq
    have hz : zp p = (p.1, p.2.1, p.2.2.1, p.2.2.2.1, p.2.2.2.2.1, p.2.2.2.2.2, ()) := rfl
    rw [hr.d] at e2
    rw [hr.v, hr.d]
    simp only [Option.bind_some]
    rw [bif_f (show ((0 : Int) != 0) = false from rfl), e2]
    simp only [Option.bind_some]
    rw [bif_ne]
    by_cases hn : (q.length : Int) = (p.2.2.1.length : Int)
    · rw [if_pos hn, if_neg (by simpa using hn)]
      rw [← hz, e3]
      cases hbad : (List.range' 0 q.length).any (fun j => badQty (q.getD j 0)) with
      | true => rfl
      | false =>
        simp only [cond_false, Option.bind_some]
        have g := hr.good (show q.length = p.2.2.1.length by omega) hbad
        have hm := chk_more hr.c
        have e4 := vPower hm.2.1
        rw [show (zp p).2.1 = p.2.1 from rfl, e4]
        simp only [Option.bind_some]
        rw [vTable]
        simp only [Option.bind_some]
        have hA : At p pl [] 0 := ⟨Nat.zero_le _, by rw [hr.s.z]; rfl, fun x hx => by cases hx⟩
        have hsn := hr.s.R.n
        have e5 := itrs_eq (vLoop hr.s g p.2.2.2.2.2.length [] 0 0 (by omega) (by omega) hA) rfl (by omega)
        rw [show ((0 : Nat) : Int) = 0 from rfl] at e5
        -- what the end comes to
        have fin : ∀ r, runV p q (unitV p.2.1) p.2.2.2.2.2.length [] 0 0 = some r → ∃ x : Wd, r.1 = [x] ∧ N22 (x, unitV p.2.1, p.1, ()) = some (divans (wp_ x) (wp_ (unitV p.2.1)) p.1) ∧ N23 ((divans (wp_ x) (wp_ (unitV p.2.1)) p.1).1, ()) = some (intans (wp_ (divans (wp_ x) (wp_ (unitV p.2.1)) p.1).1)) := fun r hrun => by
          obtain ⟨r1, ⟨x, hx1, hx⟩, _⟩ := run_end hr.s g _ _ _ _ (by omega) hA r.1 r.2.1 r.2.2 hrun
          exact ⟨x, hx1, wDiv hx g.uw, vInt (divans_WB2 _ _ _)⟩
        generalize hR : runV p q (unitV p.2.1) p.2.2.2.2.2.length [] 0 0 = R at *
        generalize unitV p.2.1 = u at *
        obtain ⟨u0, u1⟩ := u
        obtain ⟨p0, p1, p2, p3, p4, p5⟩ := p
        unfold zp mc at *
        simp only [] at e5 fin ⊢
        cases R with
        | none =>
          rw [e5]
          rfl
        | some r =>
          rw [e5]
          obtain ⟨x, hx, f1, f2⟩ := fin r rfl
          obtain ⟨l', i', s'⟩ := r
          simp only at hx
          subst hx
          have e9 := quot_eq (divans (wp_ x) (wp_ (u0, u1)) p0).2.1 (intans (wp_ (divans (wp_ x) (wp_ (u0, u1)) p0).1)).1 (s' : Int) (intans (wp_ (divans (wp_ x) (wp_ (u0, u1)) p0).1)).2.1
          unfold quotV
          have hgx : ([x] : List Wd).getD 0 (0, 0) = x := rfl
          simp only [hgx]
          rw [← e9]
          generalize hI : intans (wp_ (divans (wp_ x) (wp_ (u0, u1)) p0).1) = I at *
          generalize divans (wp_ x) (wp_ (u0, u1)) p0 = D at *
          obtain ⟨⟨D0, D1⟩, D2, ⟨⟩⟩ := D
          obtain ⟨I0, I1, ⟨⟩⟩ := I
          obtain ⟨x0, x1⟩ := x
          simp only [Option.bind_some, List.getElem?_cons_zero, List.length_singleton]
          rw [bif_t (c := true && decide ((0 : Int) < ((1 : Nat) : Int))) (by decide)]
          simp only [Option.bind_some]
          rw [f1]
          simp only [Option.bind_some]
          rw [f2]
          rfl
    · rw [if_neg hn, if_pos (by simpa using hn)]
  · rw [if_pos hv]
    generalize vans b = V at *
    obtain ⟨⟨V0, V1⟩, V2, ⟨⟩⟩ := V
    simp only [Option.bind_some] at hv ⊢
    rw [bif_ne, if_neg hv]
end Go.Proofs.Ytaalnjfmcjdimaa.E
/-
  What the arguments' reader knows of programs and bytes. No condition.
-/
namespace Go.Proofs.Ytaalnjfmcjdimaa.E
open Go
set_option linter.unusedVariables false
set_option maxRecDepth 100000
theorem by_u8 : Program.bytesOf Try.prog 5 = 1 := by kernel_rfl
theorem by_i64 : Program.bytesOf Try.prog 2 = 8 := by kernel_rfl
theorem by_wide : Program.bytesOf Try.prog 62 = 16 := by kernel_rfl
theorem by_tiers : Program.bytesOf Try.prog 63 = 24 := by kernel_rfl
theorem by_tier : Program.bytesOf Try.prog 65 = 16 := by kernel_rfl
theorem by_instr : Program.bytesOf Try.prog 44 = 24 := by kernel_rfl
theorem bytes_bl {b : List Int} (h : List.length b * Program.bytesOf Try.prog 5 ≤ 140737488351232 ∧ ∀ x ∈ b, (0 ≤ x ∧ x ≤ 255)) : Bl b := by
  rw [by_u8] at h
  exact ⟨fun x hx => h.2 x hx, by omega⟩
theorem prg_wf {p : Prg} (h1 : List.length p.2.2.1 * Program.bytesOf Try.prog 2 ≤ 140737488351232 ∧ ∀ x ∈ p.2.2.1, (-9223372036854775808 ≤ x ∧ x ≤ 9223372036854775807))
    (h2 : List.length p.2.2.2.1 * Program.bytesOf Try.prog 62 ≤ 140737488351232 ∧ ∀ x ∈ p.2.2.2.1, (-9223372036854775808 ≤ x.1 ∧ x.1 ≤ 9223372036854775807) ∧ (0 ≤ x.2 ∧ x.2 ≤ 18446744073709551615))
    (h3 : List.length p.2.2.2.2.1 * Program.bytesOf Try.prog 63 ≤ 140737488351232 ∧ ∀ x ∈ p.2.2.2.2.1, (List.length x * Program.bytesOf Try.prog 65 ≤ 140737488351232 ∧ ∀ x' ∈ x, (-9223372036854775808 ≤ x'.1 ∧ x'.1 ≤ 9223372036854775807) ∧ (-9223372036854775808 ≤ x'.2 ∧ x'.2 ≤ 9223372036854775807)))
    (h4 : List.length p.2.2.2.2.2 * Program.bytesOf Try.prog 44 ≤ 140737488351232) : Small p ∧ Wf p := by
  rw [by_i64] at h1
  rw [by_wide] at h2
  rw [by_tiers, by_tier] at h3
  rw [by_instr] at h4
  refine ⟨⟨by omega, by omega, by omega, by omega, fun l hl => ?_⟩, ⟨h1.2, h2.2, fun l hl => (h3.2 l hl).2⟩⟩
  have := (h3.2 l hl).1
  omega
theorem bl_enc {p : Prg} (h : chk p = 0) : Bl (encB p) := ⟨encB_bytes p, by have := encB_len (chk_fit h); omega⟩
theorem dec_enc {p : Prg} (h : chk p = 0) (hw : Wf p) : decans (encB p) = (p, 0, ()) := by
  have := decans_enc h hw []
  rw [List.append_nil] at this
  rw [this]
  rfl
end Go.Proofs.Ytaalnjfmcjdimaa.E
/-
  Runs end within the prover's steps; what their answers may be. No condition but the sizes that any machine's memory has.
-/
namespace Go.Proofs.Ytaalnjfmcjdimaa.E
open Go
set_option linter.unusedVariables false
set_option linter.unusedSimpArgs false
set_option maxRecDepth 100000
theorem awake_yes : N5 () = some (true, ()) := by kernel_rfl
theorem quotV_in (x u : Wd) (m : Int) : ((quotV x u m).2 = 0 ∧ -1000000000000000 ≤ (quotV x u m).1 ∧ (quotV x u m).1 ≤ 1000000000000000) ∨ ((quotV x u m).2 = 102 ∧ (quotV x u m).1 = 0) := by
  unfold quotV quotQ
  split
  · exact .inr ⟨rfl, rfl⟩
  split
  · exact .inr ⟨rfl, rfl⟩
  split
  · exact .inr ⟨rfl, rfl⟩
  split
  · exact .inr ⟨rfl, rfl⟩
  · exact .inl ⟨rfl, by omega, by omega⟩
/-- An accepted program's run, whole. -/
theorem run_ok {b q : List Int} {p : Prg} {S H : Int} {pl : Pl} (hr : Runs b p S H pl) (hn : q.length = p.2.2.1.length) (hq : (List.range' 0 q.length).any (fun j => badQty (q.getD j 0)) = false) {r : List Wd × Nat × Nat} (hrun : runV p q (unitV p.2.1) p.2.2.2.2.2.length [] 0 0 = some r) :
    (∃ x, r.1 = [x] ∧ WB x.1 x.2) ∧ 1 ≤ r.2.2 ∧ (r.2.2 : Int) ≤ S := by
  have g := hr.good hn hq
  have hA : At p pl [] 0 := ⟨Nat.zero_le _, by rw [hr.s.z]; rfl, fun x hx => by cases hx⟩
  obtain ⟨r1, r2, r3, r4, _⟩ := run_end hr.s g _ _ _ _ (by omega) hA r.1 r.2.1 r.2.2 hrun
  have hl : 0 < p.2.2.2.2.2.length := by
    rcases Nat.eq_zero_or_pos p.2.2.2.2.2.length with h | h
    · have e := hr.s.e
      have z := hr.s.z
      rw [h] at e
      rw [e] at z
      cases z
    · exact h
  have hpl : 0 < pl.length := by have := hr.s.R.len; omega
  have hp := (hr.s.R.hs pl[0] (List.getElem_mem hpl)).2
  rw [getD_at hpl] at r3
  have := r4 hl
  exact ⟨r2, by omega, by omega⟩
theorem ends {b q : List Int} (hb : Bs b) : ((vans b).2.1 ≠ 0 ∧ runans b q = (0, 0, (vans b).2.1, ())) ∨ ((vans b).2.1 = 0 ∧
    ((((runans b q).2.2.1 = 100 ∨ (runans b q).2.2.1 = 101 ∨ (runans b q).2.2.1 = 10) ∧ (runans b q).1 = 0 ∧ (runans b q).2.1 = 0) ∨
      (((runans b q).2.2.1 = 0 ∨ ((runans b q).2.2.1 = 102 ∧ (runans b q).1 = 0)) ∧ 1 ≤ (runans b q).2.1 ∧ (runans b q).2.1 ≤ (vans b).1.1 ∧ -1000000000000000 ≤ (runans b q).1 ∧ (runans b q).1 ≤ 1000000000000000))) := by
  by_cases hv : (vans b).2.1 = 0
  · refine .inr ⟨hv, ?_⟩
    obtain ⟨p, S, H, pl, hr⟩ := runs_of hb hv
    unfold runans
    rw [if_neg (by simpa using hv), hr.d, hr.v]
    by_cases hn : (q.length : Int) = (p.2.2.1.length : Int)
    · rw [if_neg (by simpa using hn)]
      cases hq : (List.range' 0 q.length).any (fun j => badQty (q.getD j 0)) with
      | true => exact .inl ⟨.inr (.inl rfl), rfl, rfl⟩
      | false =>
        simp only [cond_false]
        cases hrun : runV p q (unitV p.2.1) p.2.2.2.2.2.length [] 0 0 with
        | none => exact .inl ⟨.inr (.inr rfl), rfl, rfl⟩
        | some r =>
          obtain ⟨_, k1, k2⟩ := run_ok hr (by omega) hq hrun
          refine .inr ?_
          simp only
          rcases quotV_in (r.1.getD 0 (0, 0)) (unitV p.2.1) p.1 with ⟨h1, h2, h3⟩ | ⟨h1, h2⟩
          · exact ⟨.inl h1, by omega, k2, h2, h3⟩
          · exact ⟨.inr ⟨h1, h2⟩, by omega, k2, by omega, by omega⟩
    · rw [if_pos (by simpa using hn)]
      exact .inl ⟨.inl rfl, rfl, rfl⟩
  · refine .inl ⟨hv, ?_⟩
    unfold runans
    rw [if_pos hv]
theorem vRunN {b q : List Int} (hb : Bl b) (hq : q.length ≤ 140737488355328) : N7 (b, q, ()) = some ((runans b q).1, (runans b q).2.2.1, ()) := by
  unfold N7 M7
  simp only []
  rw [vRun hb hq]
  rfl
theorem vStepsN {b q : List Int} (hb : Bl b) (hq : q.length ≤ 140737488355328) : N8 (b, q, ()) = some ((runans b q).2.1, (runans b q).2.2.1, ()) := by
  unfold N8 M8
  simp only []
  rw [vRun hb hq]
  rfl
end Go.Proofs.Ytaalnjfmcjdimaa.E
/-
  Programs put together: a run of two, one behind the other. No condition but those that the prover has seen to.
-/
namespace Go.Proofs.Ytaalnjfmcjdimaa.E
open Go
set_option linter.unusedVariables false
set_option linter.unusedSimpArgs false
set_option maxRecDepth 100000
theorem getD_base {B l : List Wd} {j : Nat} (h : j < l.length) : (B ++ l).getD (B.length + j) (0, 0) = l.getD j (0, 0) := by
  rw [List.getD_eq_getElem?_getD, List.getD_eq_getElem?_getD, List.getElem?_append_right (by omega), Nat.add_sub_cancel_left]
theorem take_base {B l : List Wd} {j : Nat} : (B ++ l).take (B.length + j) = B ++ l.take j := by
  rw [List.take_append, List.take_of_length_le (by omega), Nat.add_sub_cancel_left]
section
variable {p : VPrg} {q : List Int} {u : Wd}
/-- The same instruction, with other things beneath, further on. -/
theorem instrV_base {c : Int × Int × Int} {l B : List Wd} {a d : Int} {o : Bool} {a0 : Int} (f : Fits p c l a0) :
    instrV p q u c (B ++ l) (a + d) o = (B ++ (instrV p q u c l a o).1, (instrV p q u c l a o).2.1 + d, (instrV p q u c l a o).2.2) := by
  have hops := f.ops
  have hh := f.h
  obtain ⟨op, c1, c2⟩ := c
  simp only at hops hh
  have hl : (B ++ l).length = B.length + l.length := List.length_append
  have t1 : tkn op = 1 → (B ++ l).take ((B ++ l).length - 1) = B ++ l.take (l.length - 1) ∧ (B ++ l).getD ((B ++ l).length - 1) (0, 0) = l.getD (l.length - 1) (0, 0) := fun h => by
    have : (B ++ l).length - 1 = B.length + (l.length - 1) := by omega
    rw [this]
    exact ⟨take_base, getD_base (by omega)⟩
  have t2 : tkn op = 2 → (B ++ l).take ((B ++ l).length - 2) = B ++ l.take (l.length - 2) ∧ (B ++ l).getD ((B ++ l).length - 2) (0, 0) = l.getD (l.length - 2) (0, 0) ∧ (B ++ l).getD ((B ++ l).length - 1) (0, 0) = l.getD (l.length - 1) (0, 0) := fun h => by
    have e1 : (B ++ l).length - 1 = B.length + (l.length - 1) := by omega
    have e2 : (B ++ l).length - 2 = B.length + (l.length - 2) := by omega
    rw [e1, e2]
    exact ⟨take_base, getD_base (by omega), getD_base (by omega)⟩
  rcases hops with rfl | rfl | rfl | rfl | rfl | rfl | rfl | rfl | rfl | rfl | rfl | rfl | rfl | rfl | rfl | hops
  · rw [instr_1, instr_1, List.append_assoc]
  · rw [instr_2, instr_2, List.append_assoc]
  · rw [instr_3, instr_3, List.append_assoc]
  · obtain ⟨k1, k2⟩ := t1 rfl
    rw [instr_4, instr_4, k1, k2, List.append_assoc]
  · obtain ⟨k1, k2, k3⟩ := t2 rfl
    rw [instr_5, instr_5, k1, k2, k3, List.append_assoc]
  · obtain ⟨k1, k2, k3⟩ := t2 rfl
    rw [instr_6, instr_6, k1, k2, k3, List.append_assoc]
  · obtain ⟨k1, k2, k3⟩ := t2 rfl
    rw [instr_7, instr_7, k1, k2, k3, List.append_assoc]
  · obtain ⟨k1, k2, k3⟩ := t2 rfl
    rw [instr_8, instr_8, k1, k2, k3, List.append_assoc]
  · obtain ⟨k1, k2, k3⟩ := t2 rfl
    rw [instr_9, instr_9, k1, k2, k3, List.append_assoc]
  · obtain ⟨k1, k2⟩ := t1 rfl
    rw [instr_10, instr_10, k1, k2, List.append_assoc]
  · obtain ⟨k1, k2⟩ := t1 rfl
    rw [instr_11, instr_11, k1, k2, List.append_assoc]
  · obtain ⟨k1, k2⟩ := t1 rfl
    rw [instr_12, instr_12, k1, k2, List.append_assoc]
  · obtain ⟨k1, k2⟩ := t1 rfl
    rw [instr_13, instr_13, k1, k2, List.append_assoc]
  · obtain ⟨k1, k2⟩ := t1 rfl
    rw [instr_14, instr_14, k1, k2, List.append_assoc]
  · rw [instr_15, instr_15]
    refine Prod.ext rfl (Prod.ext ?_ rfl)
    simp only
    omega
  · have e : ∀ (l : List Wd) (a : Int), instrV p q u (op, c1, c2) l a o = (l.take (l.length - 1), bif holdsV (cmpv (wp_ (l.getD (l.length - 1) (0, 0))) (wp_ (p.2.2.2.1.getD c1.toNat (0, 0)))) (op - 15) then a else a + c2, o) := fun l a => by
      unfold instrV
      simp only []
      rw [if_neg (by omega), if_neg (by omega), if_neg (by omega), if_neg (by omega), if_neg (by omega), if_neg (by omega), if_neg (by omega), if_neg (by omega), if_neg (by omega), if_neg (by omega), if_neg (by omega), if_neg (by omega), if_neg (by omega), if_neg (by omega), if_neg (by omega)]
    obtain ⟨k1, k2⟩ := t1 (by unfold tkn; rw [if_pos (by omega)])
    rw [e, e, k1, k2]
    refine Prod.ext rfl (Prod.ext ?_ rfl)
    simp only
    cases holdsV (cmpv (wp_ (l.getD (l.length - 1) (0, 0))) (wp_ (p.2.2.2.1.getD c1.toNat (0, 0)))) (op - 15) with
    | true => rfl
    | false => simp only [cond_false]; omega
/-- From one state of a run to another one, in so many steps. -/
inductive Goto (p : VPrg) (q : List Int) (u : Wd) : Nat → List Wd → Nat → List Wd → Nat → Prop
  | here (l : List Wd) (i : Nat) : Goto p q u 0 l i l i
  | step {n : Nat} {l : List Wd} {i : Nat} {l' : List Wd} {i' : Nat} (hi : i < p.2.2.2.2.2.length) (ho : (instrV p q u (p.2.2.2.2.2.getD i (0, 0, 0)) l ((i + 1 : Nat) : Int) false).2.2 = false)
      (h : Goto p q u n (instrV p q u (p.2.2.2.2.2.getD i (0, 0, 0)) l ((i + 1 : Nat) : Int) false).1 (instrV p q u (p.2.2.2.2.2.getD i (0, 0, 0)) l ((i + 1 : Nat) : Int) false).2.1.toNat l' i') : Goto p q u (n + 1) l i l' i'
theorem Goto.run {n : Nat} {l : List Wd} {i : Nat} {l' : List Wd} {i' : Nat} (h : Goto p q u n l i l' i') : ∀ (m s : Nat), runV p q u (n + m) l i s = runV p q u m l' i' (s + n) := by
  induction h with
  | here l i => intro m s; rw [Nat.zero_add]; rfl
  | step hi ho h ih =>
    rename_i n l i l' i'
    intro m s
    rw [show n + 1 + m = (n + m) + 1 by omega, runV, if_pos hi, if_neg (by rw [ho]; decide), ih m (s + 1), show s + 1 + n = s + (n + 1) by omega]
theorem Goto.trans {n m : Nat} {l : List Wd} {i : Nat} {l' : List Wd} {i' : Nat} {l2 : List Wd} {i2 : Nat} (h : Goto p q u n l i l' i') (k : Goto p q u m l' i' l2 i2) : Goto p q u (n + m) l i l2 i2 := by
  induction h with
  | here l i => rw [Nat.zero_add]; exact k
  | step hi ho h ih =>
    rename_i n l i l' i'
    rw [show n + 1 + m = (n + m) + 1 by omega]
    exact .step hi ho (ih k)
/-- A run's way, within a longer program, with other things beneath. -/
theorem goto_of {pl : Pl} {H S : Int} (hs : Seen p pl H S) (g : Good p q u) {r : VPrg} {B : List Wd} {k : Nat} (hr : ∀ (c : Int × Int × Int) (l : List Wd) (a : Int) (o : Bool), instrV r q u c l a o = instrV p q u c l a o) (hk : ∀ i, i < p.2.2.2.2.2.length → k + i < r.2.2.2.2.2.length ∧ r.2.2.2.2.2.getD (k + i) (0, 0, 0) = p.2.2.2.2.2.getD i (0, 0, 0)) :
    ∀ (n : Nat) (l : List Wd) (i s : Nat), At p pl l i → ∀ l' i' s', runV p q u n l i s = some (l', i', s') → s ≤ s' ∧ s' ≤ s + n ∧ Goto r q u (s' - s) (B ++ l) (k + i) (B ++ l') (k + i')
  | 0, l, i, s, hA, l', i', s', hrun => by
    injection hrun with hrun
    simp only [Prod.mk.injEq] at hrun
    obtain ⟨rfl, rfl, rfl⟩ := hrun
    exact ⟨Nat.le_refl _, Nat.le_refl _, by rw [Nat.sub_self]; exact .here _ _⟩
  | n + 1, l, i, s, hA, l', i', s', hrun => by
    unfold runV at hrun
    by_cases hlt : i < p.2.2.2.2.2.length
    · rw [if_pos hlt] at hrun
      obtain ⟨k1, k2⟩ := hk i hlt
      have ff := hA.fits hs hlt
      have eb := instrV_base (q := q) (u := u) (B := B) (a := ((i + 1 : Nat) : Int)) (d := (k : Int)) (o := false) ff
      obtain ⟨a1, a2, a3, a4⟩ := hA.next (o := false) hs g hlt
      split at hrun
      · cases hrun
      · rename_i ho
        obtain ⟨h1, h2, h3⟩ := goto_of hs g (B := B) hr hk n _ _ (s + 1) a1 l' i' s' hrun
        have ea : ((k + i + 1 : Nat) : Int) = ((i + 1 : Nat) : Int) + (k : Int) := by omega
        refine ⟨by omega, by omega, ?_⟩
        rw [show s' - s = (s' - (s + 1)) + 1 by omega]
        refine .step k1 ?_ ?_
        · rw [hr, k2, ea, eb]
          simpa using ho
        · rw [hr, k2, ea, eb]
          simp only
          rw [← a2, show ((((instrV p q u (p.2.2.2.2.2.getD i (0, 0, 0)) l ((i + 1 : Nat) : Int) false).2.1.toNat : Nat) : Int) + (k : Int)).toNat = k + (instrV p q u (p.2.2.2.2.2.getD i (0, 0, 0)) l ((i + 1 : Nat) : Int) false).2.1.toNat by omega]
          exact h3
    · rw [if_neg hlt] at hrun
      injection hrun with hrun
      simp only [Prod.mk.injEq] at hrun
      obtain ⟨rfl, rfl, rfl⟩ := hrun
      exact ⟨Nat.le_refl _, by omega, by rw [Nat.sub_self]; exact .here _ _⟩
end
/-! ### prices in whole units -/
theorem quot_one {x : Wd} {m : Int} (hm : 0 ≤ m ∧ m ≤ 4) (hx : WB x.1 x.2) : quotV x (unitV 0) m = if -1000000000000000 ≤ wp_ x ∧ wp_ x ≤ 1000000000000000 then (wp_ x, 0) else (0, 102) := by
  have hu : wp_ (unitV 0) = 1 := by decide
  have hin := wv_in hx
  have hq : qv (wp_ x) 1 = wp_ x := by
    unfold qv wabs
    by_cases h : wp_ x < 0
    · simp [h]
    · simp [h]
  have hr : rv (wp_ x) 1 = 0 := by
    unfold rv wabs
    simp only [show ¬ ((1 : Int) < 0) from by decide, if_false, Int.emod_one]
    simp
  have hd : divans (wp_ x) 1 m = (x, 0, ()) := by
    unfold divans
    rw [if_neg (by omega), if_neg (by omega), if_neg (by decide), hq, if_pos (show inR (wp_ x) from hin), hr, if_pos rfl]
    have e1 := wv_hi hx
    have e2 := wv_lo hx
    unfold wp_
    rw [e1, e2]
  unfold quotV
  rw [hu, hd]
  unfold quotQ intans
  simp only
  rw [if_neg (by decide)]
  by_cases h : -9223372036854775808 ≤ wp_ x ∧ wp_ x ≤ 9223372036854775807
  · rw [if_pos h]
    simp only
    rw [if_neg (by decide)]
    by_cases h1 : wp_ x < -1000000000000000
    · rw [if_pos h1, if_neg (by omega)]
    · rw [if_neg h1]
      by_cases h2 : wp_ x > 1000000000000000
      · rw [if_pos h2, if_neg (by omega)]
      · rw [if_neg h2, if_pos (by omega)]
  · rw [if_neg h]
    simp only
    rw [if_pos trivial, if_neg (by omega)]
end Go.Proofs.Ytaalnjfmcjdimaa.E
/-
  What two programs answer, put together with one instruction more. No condition but those that the prover has seen to.
-/
namespace Go.Proofs.Ytaalnjfmcjdimaa.E
open Go
set_option linter.unusedVariables false
set_option linter.unusedSimpArgs false
set_option maxRecDepth 100000
theorem run_parts {b q : List Int} {p : Prg} {S H : Int} {pl : Pl} (hr : Runs b p S H pl) {X N e : Int} (h : runans b q = (X, N, e, ())) (he : e = 0) : q.length = p.2.2.1.length ∧ (List.range' 0 q.length).any (fun j => badQty (q.getD j 0)) = false ∧
    ∃ r, runV p q (unitV p.2.1) p.2.2.2.2.2.length [] 0 0 = some r ∧ (r.2.2 : Int) = N ∧ quotV (r.1.getD 0 (0, 0)) (unitV p.2.1) p.1 = (X, 0) := by
  subst he
  unfold runans at h
  rw [if_neg (by rw [hr.v]; simp), hr.d] at h
  by_cases hn : (q.length : Int) = (p.2.2.1.length : Int)
  · rw [if_neg (by simpa using hn)] at h
    cases hq : (List.range' 0 q.length).any (fun j => badQty (q.getD j 0)) with
    | true => rw [hq] at h; simp at h
    | false =>
      rw [hq] at h
      simp only [cond_false] at h
      refine ⟨by omega, rfl, ?_⟩
      cases hrun : runV p q (unitV p.2.1) p.2.2.2.2.2.length [] 0 0 with
      | none => rw [hrun] at h; simp at h
      | some r =>
        rw [hrun] at h
        simp only [Prod.mk.injEq, and_true] at h
        exact ⟨r, rfl, h.2.1, Prod.ext h.1 h.2.2⟩
  · rw [if_pos (by simpa using hn)] at h
    simp at h
theorem runs_enc {p : Prg} (hc : chk p = 0) (hw : Wf p) {q : List Int} {X N : Int} (h : runans (encB p) q = (X, N, 0, ())) : ∃ S H pl, Runs (encB p) p S H pl := by
  have hb := bl_enc hc
  have hv : (vans (encB p)).2.1 = 0 := by
    by_cases hv : (vans (encB p)).2.1 = 0
    · exact hv
    · unfold runans at h
      rw [if_pos hv] at h
      simp only [Prod.mk.injEq, and_true] at h
      exact h.2.2
  obtain ⟨p', S, H, pl, hr⟩ := runs_of hb.1 hv
  have hd := hr.d
  rw [dec_enc hc hw] at hd
  simp only [Prod.mk.injEq, and_true] at hd
  subst hd
  exact ⟨S, H, pl, hr⟩
def opZ (op X Y : Int) : Int := if op = 5 then X + Y else if op = 6 then X - Y else if op = 8 then (if Y < X then Y else X) else (if Y < X then X else Y)
theorem last_one {p : VPrg} {q : List Int} {u x y : Wd} {op a : Int} (ho : op = 5 ∨ op = 6 ∨ op = 8 ∨ op = 9) (hx : -1000000000000000 ≤ wp_ x ∧ wp_ x ≤ 1000000000000000) (hy : -1000000000000000 ≤ wp_ y ∧ wp_ y ≤ 1000000000000000) (bx : WB x.1 x.2) (by_ : WB y.1 y.2) :
    ∃ z, instrV p q u (op, 0, 0) [x, y] a false = ([z], a, false) ∧ WB z.1 z.2 ∧ wp_ z = opZ op (wp_ x) (wp_ y) := by
  have big : ∀ v : Int, -2000000000000000 ≤ v ∧ v ≤ 2000000000000000 → ck v false = (ofV v, false) ∧ WB (ofV v).1 (ofV v).2 := fun v hv => by
    have e := wans_in (v := v) (by omega)
    unfold ck ov ofV
    rw [e]
    exact ⟨rfl, WB_in (by omega)⟩
  rcases ho with rfl | rfl | rfl | rfl
  · obtain ⟨b1, b2⟩ := big (wp_ x + wp_ y) (by omega)
    refine ⟨ofV (wp_ x + wp_ y), ?_, b2, wp_of _⟩
    rw [instr_5]
    change ([(ck (wp_ x + wp_ y) false).1], a, (ck (wp_ x + wp_ y) false).2) = _
    rw [b1]
  · obtain ⟨b1, b2⟩ := big (wp_ x - wp_ y) (by omega)
    refine ⟨ofV (wp_ x - wp_ y), ?_, b2, wp_of _⟩
    rw [instr_6]
    change ([(ck (wp_ x - wp_ y) false).1], a, (ck (wp_ x - wp_ y) false).2) = _
    rw [b1]
  · have hc := cmpv_cases (wp_ y) (wp_ x)
    by_cases h : wp_ y < wp_ x
    · refine ⟨y, ?_, by_, (if_pos h).symm⟩
      rw [instr_8]
      change ([bif decide (cmpv (wp_ y) (wp_ x) < 0) then y else x], a, false) = _
      rw [decide_eq_true (by omega)]
      rfl
    · refine ⟨x, ?_, bx, (if_neg h).symm⟩
      rw [instr_8]
      change ([bif decide (cmpv (wp_ y) (wp_ x) < 0) then y else x], a, false) = _
      rw [decide_eq_false (by omega)]
      rfl
  · have hc := cmpv_cases (wp_ y) (wp_ x)
    by_cases h : wp_ y < wp_ x
    · refine ⟨x, ?_, bx, (if_pos h).symm⟩
      rw [instr_9]
      change ([bif decide (cmpv (wp_ y) (wp_ x) > 0) then y else x], a, false) = _
      rw [decide_eq_false (by omega)]
      rfl
    · by_cases h2 : wp_ y = wp_ x
      · refine ⟨x, ?_, bx, ?_⟩
        · rw [instr_9]
          change ([bif decide (cmpv (wp_ y) (wp_ x) > 0) then y else x], a, false) = _
          rw [decide_eq_false (by omega)]
          rfl
        · change wp_ x = if wp_ y < wp_ x then wp_ x else wp_ y
          rw [if_neg h, h2]
      · refine ⟨y, ?_, by_, (if_neg h).symm⟩
        rw [instr_9]
        change ([bif decide (cmpv (wp_ y) (wp_ x) > 0) then y else x], a, false) = _
        rw [decide_eq_true (by omega)]
        rfl
theorem joined {p : Prg} {c : List (Int × Int × Int)} {q : List Int} {op X Y N M : Int} (hc : chk p = 0) (hc2 : chk (wc p c) = 0) (hw : Wf p) (hs0 : p.2.1 = 0) (hlen : p.2.2.2.2.2.length + c.length < 8192) (ho : op = 5 ∨ op = 6 ∨ op = 8 ∨ op = 9)
    (h1 : runans (encB p) q = (X, N, 0, ())) (h2 : runans (encB (wc p c)) q = (Y, M, 0, ())) :
    (-1000000000000000 ≤ X ∧ X ≤ 1000000000000000) ∧ (-1000000000000000 ≤ Y ∧ Y ≤ 1000000000000000) ∧ (0 ≤ N ∧ N ≤ 8192) ∧ (0 ≤ M ∧ M ≤ 8192) ∧ chk (wc p (p.2.2.2.2.2 ++ (c ++ [(op, 0, 0)]))) = 0 ∧
    (runans (encB (wc p (p.2.2.2.2.2 ++ (c ++ [(op, 0, 0)])))) q = (0, 0, 171, ()) ∨ runans (encB (wc p (p.2.2.2.2.2 ++ (c ++ [(op, 0, 0)])))) q = if -1000000000000000 ≤ opZ op X Y ∧ opZ op X Y ≤ 1000000000000000 then (opZ op X Y, N + M + 1, 0, ()) else (0, N + M + 1, 102, ())) := by
  have hw2 : Wf (wc p c) := ⟨hw.a, hw.b, hw.c⟩
  obtain ⟨S, H, pl, r1⟩ := runs_enc hc hw h1
  obtain ⟨T, K, ql, r2⟩ := runs_enc hc2 hw2 h2
  obtain ⟨hn, hq, x1, f1, n1, p1⟩ := run_parts r1 h1 rfl
  obtain ⟨_, _, x2, f2, n2, p2⟩ := run_parts r2 h2 rfl
  have vp : vshape p = ((S, H), 0, ()) := by
    have := r1.v
    unfold vans at this
    rw [r1.d, if_neg (by simp)] at this
    exact this
  have vq : vshape (wc p c) = ((T, K), 0, ()) := by
    have := r2.v
    unfold vans at this
    rw [r2.d, if_neg (by simp)] at this
    exact this
  have J : Join p c S T H K := ⟨hc, hc2, vp, vq⟩
  have g1 := r1.good hn hq
  have g2 := r2.good (q := q) hn hq
  rw [hs0] at g1 f1 p1
  rw [show (wc p c).2.1 = 0 from hs0] at g2 f2 p2
  have hA1 : At p pl [] 0 := ⟨Nat.zero_le _, by rw [r1.s.z]; rfl, fun x hx => by cases hx⟩
  have hA2 : At (wc p c) ql [] 0 := ⟨Nat.zero_le _, by rw [r2.s.z]; rfl, fun x hx => by cases hx⟩
  obtain ⟨l1, i1, s1⟩ := x1
  obtain ⟨l2, i2, s2⟩ := x2
  obtain ⟨a1, ⟨x, a2, bx⟩, _⟩ := run_end r1.s g1 _ _ _ _ (by omega) hA1 _ _ _ f1
  obtain ⟨b1, ⟨y, b2, by_⟩, _⟩ := run_end r2.s g2 _ _ _ _ (by omega) hA2 _ _ _ f2
  subst a1 a2 b1 b2
  have hm := (chk_more hc).1
  have q1 := quot_one hm bx
  have q2 := quot_one hm by_
  change quotV x (unitV 0) p.1 = (X, 0) at p1
  change quotV y (unitV 0) p.1 = (Y, 0) at p2
  rw [p1] at q1
  rw [p2] at q2
  have hX : (-1000000000000000 ≤ wp_ x ∧ wp_ x ≤ 1000000000000000) ∧ X = wp_ x := by
    split at q1
    · rename_i h; simp only [Prod.mk.injEq, and_true] at q1; exact ⟨h, q1⟩
    · simp at q1
  have hY : (-1000000000000000 ≤ wp_ y ∧ wp_ y ≤ 1000000000000000) ∧ Y = wp_ y := by
    split at q2
    · rename_i h; simp only [Prod.mk.injEq, and_true] at q2; exact ⟨h, q2⟩
    · simp at q2
  obtain ⟨hX1, rfl⟩ := hX
  obtain ⟨hY1, rfl⟩ := hY
  simp only at n1 n2
  -- the ways of the two
  have lc : (wc p c).2.2.2.2.2 = c := rfl
  have lR : (wc p (p.2.2.2.2.2 ++ (c ++ [(op, 0, 0)]))).2.2.2.2.2 = p.2.2.2.2.2 ++ (c ++ [(op, 0, 0)]) := rfl
  have lRn : (p.2.2.2.2.2 ++ (c ++ [(op, 0, 0)])).length = p.2.2.2.2.2.length + c.length + 1 := by simp; omega
  obtain ⟨_, t1, w1⟩ := goto_of r1.s g1 (r := wc p (p.2.2.2.2.2 ++ (c ++ [(op, 0, 0)]))) (B := []) (k := 0) (fun _ _ _ _ => rfl) (fun i hi => by
    rw [lR, Nat.zero_add]
    exact ⟨by rw [lRn]; omega, getD_app_l hi⟩) _ _ _ _ hA1 _ _ _ f1
  obtain ⟨_, t2, w2⟩ := goto_of r2.s g2 (r := wc p (p.2.2.2.2.2 ++ (c ++ [(op, 0, 0)]))) (B := [x]) (k := p.2.2.2.2.2.length) (fun _ _ _ _ => rfl) (fun i hi => by
    rw [lc] at hi ⊢
    rw [lR]
    exact ⟨by rw [lRn]; omega, by rw [getD_app_r rfl, getD_app_l hi]⟩) _ _ _ _ hA2 _ _ _ f2
  rw [lc] at t2 w2
  have w2' : Goto (wc p (p.2.2.2.2.2 ++ (c ++ [(op, 0, 0)]))) q (unitV 0) (s2 - 0) [x] p.2.2.2.2.2.length [x, y] (p.2.2.2.2.2.length + c.length) := w2
  have w1' : Goto (wc p (p.2.2.2.2.2 ++ (c ++ [(op, 0, 0)]))) q (unitV 0) (s1 - 0) [] 0 [x] p.2.2.2.2.2.length := by
    have := w1
    rw [Nat.zero_add, Nat.zero_add] at this
    exact this
  have w := w1'.trans w2'
  have hcR : chk (wc p (p.2.2.2.2.2 ++ (c ++ [(op, 0, 0)]))) = 0 := by
    refine chk_code hc (by rw [lRn]; omega) fun z hz => ?_
    rcases List.mem_append.1 hz with hz | hz
    · exact r1.s.R.ins z hz
    · rcases List.mem_append.1 hz with hz | hz
      · exact r2.s.R.ins z hz
      · rw [List.mem_singleton.1 hz]
        rcases ho with rfl | rfl | rfl | rfl <;> rfl
  refine ⟨hX1, hY1, by omega, by omega, hcR, ?_⟩
  have hwR : Wf (wc p (p.2.2.2.2.2 ++ (c ++ [(op, 0, 0)]))) := ⟨hw.a, hw.b, hw.c⟩
  have dR := dec_enc hcR hwR
  have vR := J.one (o := op) (by omega)
  have vR' : vans (encB (wc p (p.2.2.2.2.2 ++ (c ++ [(op, 0, 0)])))) = vshape (wc p (p.2.2.2.2.2 ++ (c ++ [(op, 0, 0)]))) := by
    unfold vans
    rw [dR, if_neg (by simp)]
  unfold runans
  rw [vR', vR, dR]
  by_cases hhi : mx H (K + 1) > 1024
  · rw [if_pos hhi]
    exact .inl rfl
  · rw [if_neg hhi]
    refine .inr ?_
    rw [if_neg (by simp)]
    simp only
    rw [if_neg (show ¬ (q.length : Int) ≠ ((wc p (p.2.2.2.2.2 ++ (c ++ [(op, 0, 0)]))).2.2.1.length : Int) from by rw [show (wc p (p.2.2.2.2.2 ++ (c ++ [(op, 0, 0)]))).2.2.1 = p.2.2.1 from rfl, hn]; simp), hq, cond_false]
    rw [show (wc p (p.2.2.2.2.2 ++ (c ++ [(op, 0, 0)]))).2.1 = 0 from hs0, lR, lRn]
    obtain ⟨z, z1, z2, z3⟩ := last_one (p := wc p (p.2.2.2.2.2 ++ (c ++ [(op, 0, 0)]))) (q := q) (u := unitV 0) (a := ((p.2.2.2.2.2.length + c.length + 1 : Nat) : Int)) ho hX1 hY1 bx by_
    have hlast : (wc p (p.2.2.2.2.2 ++ (c ++ [(op, 0, 0)]))).2.2.2.2.2.getD (p.2.2.2.2.2.length + c.length) (0, 0, 0) = (op, 0, 0) := by
      rw [lR, getD_app_r rfl]
      have := getD_app_r (a := c) (b := [(op, (0 : Int), (0 : Int))]) (z := (0, 0, 0)) (n := c.length) (i := 0) rfl
      rw [Nat.add_zero] at this
      rw [this]
      rfl
    have hrun : runV (wc p (p.2.2.2.2.2 ++ (c ++ [(op, 0, 0)]))) q (unitV 0) (p.2.2.2.2.2.length + c.length + 1) [] 0 0 = some ([z], p.2.2.2.2.2.length + c.length + 1, s1 + s2 + 1) := by
      obtain ⟨m, hm2⟩ : ∃ m, p.2.2.2.2.2.length + c.length + 1 = (s1 - 0 + (s2 - 0)) + (m + 1) := ⟨p.2.2.2.2.2.length + c.length - s1 - s2, by omega⟩
      have e := w.run (m + 1) 0
      rw [← hm2] at e
      rw [e, runV, if_pos (by rw [lR, lRn]; omega), hlast, z1]
      simp only
      rw [if_neg (by decide), Int.toNat_natCast]
      have : ∀ m s, runV (wc p (p.2.2.2.2.2 ++ (c ++ [(op, 0, 0)]))) q (unitV 0) m [z] (p.2.2.2.2.2.length + c.length + 1) s = some ([z], p.2.2.2.2.2.length + c.length + 1, s) := fun m s => by
        cases m with
        | zero => rfl
        | succ m => rw [runV, if_neg (by rw [lR, lRn]; omega)]
      rw [this]
      simp
    rw [hrun]
    simp only
    rw [show ([z] : List Wd).getD 0 (0, 0) = z from rfl, show (wc p (p.2.2.2.2.2 ++ (c ++ [(op, 0, 0)]))).1 = p.1 from rfl, quot_one hm z2, z3]
    split
    · refine Prod.ext rfl (Prod.ext ?_ rfl)
      simp only
      omega
    · refine Prod.ext rfl (Prod.ext ?_ rfl)
      simp only
      omega
end Go.Proofs.Ytaalnjfmcjdimaa.E
/-
  VmJoins, told plainly: programs put together. No condition.
-/
namespace Go.Proofs.Ytaalnjfmcjdimaa.E
open Go
set_option linter.unusedVariables false
set_option linter.unusedSimpArgs false
set_option maxRecDepth 100000
theorem wf_wc {p : Prg} (h : Wf p) (c : List (Int × Int × Int)) : Wf (wc p c) := ⟨h.a, h.b, h.c⟩
theorem small_wc {p : Prg} (h : Small p) {c : List (Int × Int × Int)} (hc : c.length ≤ 140737488355328) : Small (wc p c) := ⟨h.a, h.b, h.c, hc, h.e⟩
theorem enc_bl (p : Prg) : Bl (encans p).1 := by
  unfold encans
  by_cases hc : chk p = 0
  · rw [hc]; exact bl_enc hc
  · rw [bif_t (show (chk p != 0) = true from by simpa using hc)]
    exact (show Bl ([] : List Int) from ⟨fun x hx => (by cases hx), Nat.zero_le _⟩)
theorem enc_ok {p : Prg} (h : (encans p).2.1 = 0) : chk p = 0 ∧ encans p = (encB p, 0, ()) := by
  unfold encans at *
  by_cases hc : chk p = 0
  · rw [hc]; exact ⟨rfl, rfl⟩
  · rw [bif_t (show (chk p != 0) = true from by simpa using hc)] at h
    exact absurd h hc
section
variable {p : Prg} {c : List (Int × Int × Int)} {q : List Int} {X Y N M : Int}
/-- A round of the statement's loop. -/
theorem j_round (sp : Small p) (hc : chk p = 0) (hc2 : chk (wc p c) = 0) (hw : Wf p) (hs0 : p.2.1 = 0) (hlen : p.2.2.2.2.2.length + c.length < 8192) (hq : q.length ≤ 140737488355328)
    (h1 : runans (encB p) q = (X, N, 0, ())) (h2 : runans (encB (wc p c)) q = (Y, M, 0, ())) {op : Int} (ho : op = 5 ∨ op = 6 ∨ op = 8 ∨ op = 9) {want : List Int} {j : Nat} (hj : j < 4) (hwl : want.length = 4) (hwj : want[j]? = some (opZ op X Y)) (hoj : ([5, 6, 8, 9] : List Int)[j]? = some op) :
    R4_0 (q, zp p, zp (wc p c), N, M, want, [5, 6, 8, 9], (j : Int), ()) = some (.inl (q, zp p, zp (wc p c), N, M, want, [5, 6, 8, 9], ((j + 1 : Nat) : Int), ())) := by
  obtain ⟨hX, hY, hN, hM, hcR, hr⟩ := joined hc hc2 hw hs0 hlen ho h1 h2
  have lRn : (p.2.2.2.2.2 ++ (c ++ [(op, 0, 0)])).length = p.2.2.2.2.2.length + c.length + 1 := by simp; omega
  have e0 := eEncode (small_wc sp (c := p.2.2.2.2.2 ++ (c ++ [(op, 0, 0)])) (by rw [lRn]; omega)) (wf_wc hw (p.2.2.2.2.2 ++ (c ++ [(op, 0, 0)]))).los
  rw [show encans (wc p (p.2.2.2.2.2 ++ (c ++ [(op, 0, 0)]))) = (encB (wc p (p.2.2.2.2.2 ++ (c ++ [(op, 0, 0)]))), 0, ()) from by unfold encans; rw [hcR]; rfl] at e0
  have e1 := vRunN (bl_enc hcR) hq
  have e2 := vStepsN (bl_enc hcR) hq
  generalize runans (encB (wc p (p.2.2.2.2.2 ++ (c ++ [(op, 0, 0)])))) q = r at *
  generalize encB (wc p (p.2.2.2.2.2 ++ (c ++ [(op, 0, 0)]))) = b at *
  have hZ : -2000000000000000 ≤ opZ op X Y ∧ opZ op X Y ≤ 2000000000000000 := by
    unfold opZ
    (repeat' split) <;> omega
  generalize opZ op X Y = Z at *
  obtain ⟨r0, r1, r2, ⟨⟩⟩ := r
  obtain ⟨p0, p1, p2, p3, p4, p5⟩ := p
  unfold R4_0 Q4_0 zp wc at *
  simp only [] at *
  subst hs0
  simp only [List.nil_append, List.append_assoc]
  rw [bif_t (c := decide ((j : Int) < 4)) (decide_eq_true (by omega)), bif_t (c := decide ((0 + p5.length) * 24 ≤ _)) (decide_eq_true (by omega))]
  simp only [Option.bind_some]
  rw [bif_t (c := decide ((p5.length + c.length) * 24 ≤ _)) (decide_eq_true (by omega))]
  simp only [Option.bind_some]
  rw [show decide ((0 : Int) ≤ (j : Int)) = true from decide_eq_true (by omega), show decide ((j : Int) < ((([5, 6, 8, 9] : List Int).length : Nat) : Int)) = true from decide_eq_true (by simp only [List.length_cons, List.length_nil]; omega), hwl, show decide ((j : Int) < ((4 : Nat) : Int)) = true from decide_eq_true (by omega)]
  simp only [Bool.and_true, cond_true, Option.bind_some, Int.toNat_natCast]
  rw [hoj]
  simp only [Option.bind_some]
  rw [bif_t (c := decide (((p5 ++ c).length + 1) * 24 ≤ _)) (decide_eq_true (by rw [List.length_append]; omega))]
  simp only [Option.bind_some]
  rw [e0]
  simp only [Option.bind_some]
  rw [e1]
  simp only [Option.bind_some]
  rw [e2]
  simp only [Option.bind_some]
  rw [hwj, wsi (n := (j : Int) + 1) (by omega), show (j : Int) + 1 = ((j + 1 : Nat) : Int) by omega, wsi (n := N + M) (by omega), wsi (n := N + M + 1) (by omega)]
  simp only [Option.bind_some, bif_eq, bif_ne, bif_p]
  rw [if_pos trivial]
  rcases hr with hr | hr
  · simp only [Prod.mk.injEq, and_true] at hr
    obtain ⟨rfl, rfl, rfl⟩ := hr
    rw [if_pos rfl]
  · split at hr
    · rename_i hin
      simp only [Prod.mk.injEq, and_true] at hr
      obtain ⟨rfl, rfl, rfl⟩ := hr
      rw [if_neg (by decide), if_neg (show ¬ (r0 > 1000000000000000) by omega), if_neg (show ¬ (r0 < -1000000000000000) by omega), if_pos rfl, if_pos rfl, if_pos rfl, if_pos rfl]
    · rename_i hin
      simp only [Prod.mk.injEq, and_true] at hr
      obtain ⟨rfl, rfl, rfl⟩ := hr
      rw [if_neg (by decide)]
      by_cases h : Z > 1000000000000000
      · rw [if_pos h, if_pos rfl, if_pos rfl]
      · rw [if_neg h, if_pos (show Z < -1000000000000000 by omega), if_pos rfl, if_pos rfl]
theorem j_loop (sp : Small p) (hc : chk p = 0) (hc2 : chk (wc p c) = 0) (hw : Wf p) (hs0 : p.2.1 = 0) (hlen : p.2.2.2.2.2.length + c.length < 8192) (hq : q.length ≤ 140737488355328)
    (h1 : runans (encB p) q = (X, N, 0, ())) (h2 : runans (encB (wc p c)) q = (Y, M, 0, ())) :
    itrs R4_0 (q, zp p, zp (wc p c), N, M, [X + Y, X - Y, opZ 8 X Y, opZ 9 X Y], [5, 6, 8, 9], 0, ()) = some (.inl ()) := by
  refine itrs_seq (fun j => (q, zp p, zp (wc p c), N, M, [X + Y, X - Y, opZ 8 X Y, opZ 9 X Y], [5, 6, 8, 9], (j : Int), ())) 4 rfl (fun j hj => ?_) ?_ (by omega)
  · match j, hj with
    | 0, hj => exact j_round sp hc hc2 hw hs0 hlen hq h1 h2 (op := 5) (by omega) hj rfl rfl rfl
    | 1, hj => exact j_round sp hc hc2 hw hs0 hlen hq h1 h2 (op := 6) (by omega) hj rfl rfl rfl
    | 2, hj => exact j_round sp hc hc2 hw hs0 hlen hq h1 h2 (op := 8) (by omega) hj rfl rfl rfl
    | 3, hj => exact j_round sp hc hc2 hw hs0 hlen hq h1 h2 (op := 9) (by omega) hj rfl rfl rfl
  · unfold R4_0 Q4_0 zp
    simp only []
    rw [bif_f (c := decide (((4 : Nat) : Int) < 4)) (decide_eq_false (by omega))]
end
theorem pureVmJoins : PVmJoins := by
  intro p q at_ ⟨_, _, h1, h2, h3, h4, _⟩ ⟨_, _, _, _, _, hq4, _⟩ hat
  obtain ⟨sp0, wp0⟩ := prg_wf h1 h2 h3 h4
  rw [by_i64] at hat
  have hq : at_.length ≤ 140737488355328 := by omega
  have lq : q.2.2.2.2.2.length ≤ 140737488355328 := by rw [by_instr] at hq4; omega
  have sp : Small (p.1, 0, p.2.2) := ⟨sp0.a, sp0.b, sp0.c, sp0.d, sp0.e⟩
  have wp : Wf (p.1, 0, p.2.2) := ⟨wp0.a, wp0.b, wp0.c⟩
  have hs0 : ((p.1, 0, p.2.2) : Prg).2.1 = 0 := rfl
  have hcode : ((p.1, 0, p.2.2) : Prg).2.2.2.2.2 = p.2.2.2.2.2 := rfl
  have lp := sp.d
  have e1 := eEncode sp wp.los
  have e2 := eEncode (small_wc sp lq) (wf_wc wp q.2.2.2.2.2).los
  have r1 := vRunN (enc_bl (p.1, 0, p.2.2)) hq
  have r2 := vRunN (enc_bl (wc (p.1, 0, p.2.2) q.2.2.2.2.2)) hq
  have s1 := vStepsN (enc_bl (p.1, 0, p.2.2)) hq
  have s2 := vStepsN (enc_bl (wc (p.1, 0, p.2.2) q.2.2.2.2.2)) hq
  have lpl : ((p.1, 0, p.2.2) : Prg).2.2.2.2.2.length + q.2.2.2.2.2.length < 8192 → (encans (p.1, 0, p.2.2)).2.1 = 0 → (encans (wc (p.1, 0, p.2.2) q.2.2.2.2.2)).2.1 = 0 → (runans (encans (p.1, 0, p.2.2)).1 at_).2.2.1 = 0 → (runans (encans (wc (p.1, 0, p.2.2) q.2.2.2.2.2)).1 at_).2.2.1 = 0 →
      itrs R4_0 (at_, zp (p.1, 0, p.2.2), zp (wc (p.1, 0, p.2.2) q.2.2.2.2.2), (runans (encans (p.1, 0, p.2.2)).1 at_).2.1, (runans (encans (wc (p.1, 0, p.2.2) q.2.2.2.2.2)).1 at_).2.1, [(runans (encans (p.1, 0, p.2.2)).1 at_).1 + (runans (encans (wc (p.1, 0, p.2.2) q.2.2.2.2.2)).1 at_).1, (runans (encans (p.1, 0, p.2.2)).1 at_).1 - (runans (encans (wc (p.1, 0, p.2.2) q.2.2.2.2.2)).1 at_).1, opZ 8 (runans (encans (p.1, 0, p.2.2)).1 at_).1 (runans (encans (wc (p.1, 0, p.2.2) q.2.2.2.2.2)).1 at_).1, opZ 9 (runans (encans (p.1, 0, p.2.2)).1 at_).1 (runans (encans (wc (p.1, 0, p.2.2) q.2.2.2.2.2)).1 at_).1], [5, 6, 8, 9], 0, ()) = some (.inl ()) ∧
      (-1000000000000000 ≤ (runans (encans (p.1, 0, p.2.2)).1 at_).1 ∧ (runans (encans (p.1, 0, p.2.2)).1 at_).1 ≤ 1000000000000000) ∧ (-1000000000000000 ≤ (runans (encans (wc (p.1, 0, p.2.2) q.2.2.2.2.2)).1 at_).1 ∧ (runans (encans (wc (p.1, 0, p.2.2) q.2.2.2.2.2)).1 at_).1 ≤ 1000000000000000) := by
    intro hl k1 k2 k3 k4
    obtain ⟨c1, d1⟩ := enc_ok k1
    obtain ⟨c2, d2⟩ := enc_ok k2
    rw [d1] at k3 ⊢
    rw [d2] at k4 ⊢
    simp only at k3 k4 ⊢
    generalize g1 : runans (encB (p.1, 0, p.2.2)) at_ = R1 at *
    generalize g2 : runans (encB (wc (p.1, 0, p.2.2) q.2.2.2.2.2)) at_ = R2 at *
    obtain ⟨X, N, e, ⟨⟩⟩ := R1
    obtain ⟨Y, M, f, ⟨⟩⟩ := R2
    simp only at k3 k4 ⊢
    subst k3 k4
    obtain ⟨j1, j2, _⟩ := joined (op := 5) c1 c2 wp hs0 hl (by omega) g1 g2
    exact ⟨j_loop sp c1 c2 wp hs0 hl hq g1 g2, j1, j2⟩
  generalize encans (p.1, 0, p.2.2) = E1 at *
  generalize encans (wc (p.1, 0, p.2.2) q.2.2.2.2.2) = E2 at *
  obtain ⟨b1, k1, ⟨⟩⟩ := E1
  obtain ⟨b2, k2, ⟨⟩⟩ := E2
  simp only at r1 r2 s1 s2 lpl
  generalize runans b1 at_ = R1 at *
  generalize runans b2 at_ = R2 at *
  obtain ⟨X, N, e, ⟨⟩⟩ := R1
  obtain ⟨Y, M, f, ⟨⟩⟩ := R2
  obtain ⟨p0, p1, p2, p3, p4, p5⟩ := p
  obtain ⟨q0, q1, q2, q3, q4, q5⟩ := q
  unfold zp wc at *
  unfold N4 M4
  simp only [] at *
  rw [awake_yes]
  simp only [Option.bind_some, Bool.not_true, cond_false]
  rw [e1]
  simp only [Option.bind_some]
  rw [e2]
  simp only [Option.bind_some]
  rw [r1]
  simp only [Option.bind_some]
  rw [r2]
  simp only [Option.bind_some]
  rw [bif_ne, bif_ne, bif_ne, bif_ne]
  by_cases hk1 : k1 = 0
  rotate_left
  · rw [if_neg hk1]
  rw [if_pos hk1]
  by_cases hk2 : k2 = 0
  rotate_left
  · rw [if_neg hk2]
  rw [if_pos hk2]
  by_cases he : e = 0
  rotate_left
  · rw [if_neg he]
  rw [if_pos he]
  by_cases hf : f = 0
  rotate_left
  · rw [if_neg hf]
  rw [if_pos hf, wsi (n := (p5.length : Int) + (q5.length : Int)) (by omega)]
  by_cases hl : p5.length + q5.length < 8192
  rotate_left
  · rw [bif_t (c := decide ((p5.length : Int) + (q5.length : Int) ≥ 8192)) (decide_eq_true (by omega))]
  rw [bif_f (c := decide ((p5.length : Int) + (q5.length : Int) ≥ 8192)) (decide_eq_false (by omega)), s1]
  simp only [Option.bind_some]
  rw [s2]
  simp only [Option.bind_some]
  obtain ⟨lp1, hX, hY⟩ := lpl hl hk1 hk2 he hf
  rw [wsi (n := X + Y) (by omega), wsi (n := X - Y) (by omega)]
  by_cases hxy : Y < X
  · rw [decide_eq_true hxy, cond_true]
    rw [show List.set (List.set [X + Y, X - Y, X, Y] 2 Y) 3 X = [X + Y, X - Y, Y, X] from rfl]
    rw [show opZ 8 X Y = Y from if_pos hxy, show opZ 9 X Y = X from if_pos hxy] at lp1
    rw [lp1]
    rfl
  · rw [decide_eq_false hxy, cond_false]
    rw [show opZ 8 X Y = X from if_neg hxy, show opZ 9 X Y = Y from if_neg hxy] at lp1
    rw [lp1]
    rfl
end Go.Proofs.Ytaalnjfmcjdimaa.E
namespace Go.Proofs.Ytaalnjfmcjdimaa.E.Row
open Go Go.ChangeShapes Go.WideShapes Go.ChangeAt Go.RowKit Go.Proofs.Ytaalnjfmcjdimaa
set_option linter.unusedVariables false
set_option maxRecDepth 100000
theorem own : ownKnob Try.prog.godebug = none := by kernel_rfl
theorem laidOut : laidOutB Try.prog = true := by kernel_rfl
theorem came23 : Came κ Try.prog 23 (.sl (τ := τ) 2) (fun a : (List Int) => (List.length a * Program.bytesOf Try.prog 2 ≤ 140737488351232 ∧ ∀ x ∈ a, (-9223372036854775808 ≤ x ∧ x ≤ 9223372036854775807))) := Came.slice (κ := κ) (e := 2) (Q := fun x : Int => (-9223372036854775808 ≤ x ∧ x ≤ 9223372036854775807)) Try.underlying23 (by kernel_rfl) (by kernel_rfl) rfl (show Came κ Try.prog 2 (κ 2) (fun x : Int => (-9223372036854775808 ≤ x ∧ x ≤ 9223372036854775807)) from (Came.i64 Try.underlying2))
theorem came62 : Came κ Try.prog 62 ((.pair (.int .i64) (.int .u64)) : K τ (Int × Int)) W62 := Came.struct Try.underlying62 (by kernel_rfl) (CameFs.cons (o1 := 1) (Q := fun x : Int => (-9223372036854775808 ≤ x ∧ x ≤ 9223372036854775807)) rfl (by kernel_rfl) rfl (Came.i64 Try.underlying2) (CameFs.one (Q := fun x : Int => (0 ≤ x ∧ x ≤ 18446744073709551615)) rfl (by kernel_rfl) (Came.u64 Try.underlying60)))
theorem came35 : Came κ Try.prog 35 (.sl (τ := τ) 62) (fun a : (List (Int × Int)) => (List.length a * Program.bytesOf Try.prog 62 ≤ 140737488351232 ∧ ∀ x ∈ a, W62 x)) := Came.slice (κ := κ) (e := 62) (Q := fun x : (Int × Int) => W62 x) Try.underlying35 (by kernel_rfl) (by kernel_rfl) rfl (show Came κ Try.prog 62 (κ 62) (fun x : (Int × Int) => W62 x) from came62)
theorem came65 : Came κ Try.prog 65 ((.pair (.int .i64) (.int .i64)) : K τ (Int × Int)) W65 := Came.struct Try.underlying65 (by kernel_rfl) (CameFs.cons (o1 := 1) (Q := fun x : Int => (-9223372036854775808 ≤ x ∧ x ≤ 9223372036854775807)) rfl (by kernel_rfl) rfl (Came.i64 Try.underlying2) (CameFs.one (Q := fun x : Int => (-9223372036854775808 ≤ x ∧ x ≤ 9223372036854775807)) rfl (by kernel_rfl) (Came.i64 Try.underlying2)))
theorem came63 : Came κ Try.prog 63 (.sl (τ := τ) 65) (fun a : (List (Int × Int)) => (List.length a * Program.bytesOf Try.prog 65 ≤ 140737488351232 ∧ ∀ x ∈ a, W65 x)) := Came.slice (κ := κ) (e := 65) (Q := fun x : (Int × Int) => W65 x) Try.underlying63 (by kernel_rfl) (by kernel_rfl) rfl (show Came κ Try.prog 65 (κ 65) (fun x : (Int × Int) => W65 x) from came65)
theorem came36 : Came κ Try.prog 36 (.sl (τ := τ) 63) (fun a : (List (List (Int × Int))) => (List.length a * Program.bytesOf Try.prog 63 ≤ 140737488351232 ∧ ∀ x ∈ a, (List.length x * Program.bytesOf Try.prog 65 ≤ 140737488351232 ∧ ∀ x' ∈ x, W65 x'))) := Came.slice (κ := κ) (e := 63) (Q := fun x : (List (Int × Int)) => (List.length x * Program.bytesOf Try.prog 65 ≤ 140737488351232 ∧ ∀ x' ∈ x, W65 x')) Try.underlying36 (by kernel_rfl) (by kernel_rfl) rfl (show Came κ Try.prog 63 (κ 63) (fun x : (List (Int × Int)) => (List.length x * Program.bytesOf Try.prog 65 ≤ 140737488351232 ∧ ∀ x' ∈ x, W65 x')) from came63)
theorem came44 : Came κ Try.prog 44 ((.pair (.int .i64) (.pair (.int .i64) (.int .i64))) : K τ (Int × (Int × Int))) W44 := Came.struct Try.underlying44 (by kernel_rfl) (CameFs.cons (o1 := 1) (Q := fun x : Int => (-9223372036854775808 ≤ x ∧ x ≤ 9223372036854775807)) rfl (by kernel_rfl) rfl (Came.i64 Try.underlying3) (CameFs.cons (o1 := 2) (Q := fun x : Int => (-9223372036854775808 ≤ x ∧ x ≤ 9223372036854775807)) rfl (by kernel_rfl) rfl (Came.i64 Try.underlying3) (CameFs.one (Q := fun x : Int => (-9223372036854775808 ≤ x ∧ x ≤ 9223372036854775807)) rfl (by kernel_rfl) (Came.i64 Try.underlying3))))
theorem came37 : Came κ Try.prog 37 (.sl (τ := τ) 44) (fun a : (List (Int × (Int × Int))) => (List.length a * Program.bytesOf Try.prog 44 ≤ 140737488351232 ∧ ∀ x ∈ a, W44 x)) := Came.slice (κ := κ) (e := 44) (Q := fun x : (Int × (Int × Int)) => W44 x) Try.underlying37 (by kernel_rfl) (by kernel_rfl) rfl (show Came κ Try.prog 44 (κ 44) (fun x : (Int × (Int × Int)) => W44 x) from came44)
theorem came39 : Came κ Try.prog 39 ((.pair (.int .i64) (.pair (.int .i64) (.pair (.sl (τ := τ) 2) (.pair (.sl (τ := τ) 62) (.pair (.sl (τ := τ) 63) (.sl (τ := τ) 44)))))) : K τ (Int × (Int × ((List Int) × ((List (Int × Int)) × ((List (List (Int × Int))) × (List (Int × (Int × Int))))))))) W39 := Came.struct Try.underlying39 (by kernel_rfl) (CameFs.cons (o1 := 1) (Q := fun x : Int => (-9223372036854775808 ≤ x ∧ x ≤ 9223372036854775807)) rfl (by kernel_rfl) rfl (Came.i64 Try.underlying3) (CameFs.cons (o1 := 2) (Q := fun x : Int => (-9223372036854775808 ≤ x ∧ x ≤ 9223372036854775807)) rfl (by kernel_rfl) rfl (Came.i64 Try.underlying3) (CameFs.cons (o1 := 3) (Q := fun x : (List Int) => (List.length x * Program.bytesOf Try.prog 2 ≤ 140737488351232 ∧ ∀ x' ∈ x, (-9223372036854775808 ≤ x' ∧ x' ≤ 9223372036854775807))) rfl (by kernel_rfl) rfl came23 (CameFs.cons (o1 := 4) (Q := fun x : (List (Int × Int)) => (List.length x * Program.bytesOf Try.prog 62 ≤ 140737488351232 ∧ ∀ x' ∈ x, W62 x')) rfl (by kernel_rfl) rfl came35 (CameFs.cons (o1 := 5) (Q := fun x : (List (List (Int × Int))) => (List.length x * Program.bytesOf Try.prog 63 ≤ 140737488351232 ∧ ∀ x' ∈ x, (List.length x' * Program.bytesOf Try.prog 65 ≤ 140737488351232 ∧ ∀ x'' ∈ x', W65 x''))) rfl (by kernel_rfl) rfl came36 (CameFs.one (Q := fun x : (List (Int × (Int × Int))) => (List.length x * Program.bytesOf Try.prog 44 ≤ 140737488351232 ∧ ∀ x' ∈ x, W44 x')) rfl (by kernel_rfl) came37))))))
theorem lifted (os : Os) (started : os.Started) (H : Type) (enc : TypeId × Value → H) :
    ReturnsInHanded {} Try.checked os 4 .any (Rows.vmJoinsSpec.pre6 enc Try.prog Try.f4 Rows.vmJoinsRow.domain false) (Rows.vmJoinsSpec.post enc Try.prog Try.f4 false true false false) := by
  refine returnsInHanded_of_change_sized (C := Try.checked) own started (by kernel_rfl) Try.func4
    (ChangeSpec.witness6 (enc := enc) (C := Try.checked) false ⟨#[], #[(.agg #[(.int .i64 0), (.int .i64 0), (.slice none 0 0), (.slice none 0 0), (.slice none 0 0), (.slice none 0 0)]), (.agg #[(.int .i64 0), (.int .i64 0), (.slice none 0 0), (.slice none 0 0), (.slice none 0 0), (.slice none 0 0)]), (.slice none 0 0)], []⟩ 8 (by kernel_rfl) (by kernel_rfl) (by kernel_rfl) (by kernel_rfl)) ?_
  intro W base args ds gs before hval0 hW hcnd hsz0 _
  have hsz : (DataW.weightsEach Try.prog (Try.f4.params.toList ++ Rows.vmJoinsSpec.plain.varTypes Try.prog) (ds ++ gs)).all (· ≤ reachBytes) = true := hsz0
  have hval : ∀ (j : Nat) t v, Try.f4.params[j]? = some t → args[j]? = some v → Value.okWide Try.prog W .any base t v := hval0
  have hW' := hW
  obtain ⟨p, q, hA0, hV, rfl, hfz, hnd⟩ := hW
  have hA : DataW.TrodAll enc Try.prog W 0 (fun _ => true) true Try.f4.params.toList args.toList ds p := hA0
  rw [Try.params4] at hA hval hsz
  obtain ⟨v0, vs0, d0, ds0, p0, q0, hargs, rfl, rfl, h0, r0⟩ := trodAll_cons hA
  obtain ⟨v1, vs1, d1, ds1, p1, q1, rfl, rfl, rfl, h1, r1⟩ := trodAll_cons r0
  obtain ⟨v2, vs2, d2, ds2, p2, q2, rfl, rfl, rfl, h2, r2⟩ := trodAll_cons r1
  obtain ⟨rfl, rfl, rfl⟩ := trodAll_nil r2
  obtain rfl : args = #[v0, v1, v2] := by cases args; simp_all
  obtain ⟨rfl, rfl⟩ := trodVars_none hV
  have hwt : ∀ (j : Nat) t d, [39, 39, 23][j]? = some t → [d0, d1, d2][j]? = some d → ∀ n ∈ DataW.weights Try.prog t d, n ≤ reachBytes := fun j t d h1 h2 n hn => by
    have := List.all_eq_true.1 hsz n (weights_each (j := j) (by simpa using (List.getElem?_append_left (l₂ := Rows.vmJoinsSpec.plain.varTypes Try.prog) (List.getElem?_eq_some_iff.1 h1).1).trans h1) (by simpa using h2) n hn)
    simpa using this
  have lt0 : ∀ x ∈ p0, x.block < W.heap.size := by obtain ⟨m, hm⟩ := h0; exact DataW.trod_lt m _ _ _ hm
  obtain ⟨a0, e0, y0⟩ := arg_agg Try.underlying39 rfl came39 (hval 0 39 v0 rfl rfl) h0 (hwt 0 39 d0 rfl rfl)
  have lt1 : ∀ x ∈ p1, x.block < W.heap.size := by obtain ⟨m, hm⟩ := h1; exact DataW.trod_lt m _ _ _ hm
  obtain ⟨a1, e1, y1⟩ := arg_agg Try.underlying39 rfl came39 (hval 1 39 v1 rfl rfl) h1 (hwt 1 39 d1 rfl rfl)
  have lt2 : ∀ x ∈ p2, x.block < W.heap.size := by obtain ⟨m, hm⟩ := h2; exact DataW.trod_lt m _ _ _ hm
  obtain ⟨a2, e2, y2⟩ := arg_slice Try.underlying23 came23 (hval 2 23 v2 rfl rfl) h2 (hwt 2 23 d2 rfl rfl)
  have hp : N4 (a0, a1, a2, ()) = some (true, ()) := pureVmJoins a0 a1 a2 y0 y1 y2
  refine (law_calls (i := i4) (n := N4) (F := Try.f4) (code := bodyOf Try.f4) s4 (by kernel_rfl) Try.func4 (by kernel_rfl) (by kernel_rfl) hp (argsK_cons e0 (argsK_cons e1 (argsK_cons e2 argsK_nil)))).mono fun e W' ⟨he, bel⟩ => ?_
  subst he
  exact ⟨_, rfl, _, _, _, [], _, [], hW', trodAll_mk1 (shut_bool Try.underlying4 _), (trodAll_cons_mk (Below.trod laidOut (by kernel_rfl) (of_decide_eq_true (by kernel_rfl)) h0 bel lt0) (trodAll_cons_mk (Below.trod laidOut (by kernel_rfl) (of_decide_eq_true (by kernel_rfl)) h1 bel lt1) (trodAll_cons_mk (Below.trod laidOut (by kernel_rfl) (of_decide_eq_true (by kernel_rfl)) h2 bel lt2) trodAll_mk0))), rfl, bel.frame _, fun h => by cases h⟩
theorem over : Rows.vmJoinsRow.holds Try.pinned (OpenSpec.ofChange Rows.vmJoinsSpec) :=
  OpenClaim.holds_of_wide 4 Try.f4 rfl rfl rfl rfl rfl rfl rfl ⟨rfl, rfl, rfl, rfl, rfl⟩ rfl rfl rfl rfl rfl (by kernel_rfl) Try.func4 (by kernel_rfl)
    (of_decide_eq_true (by kernel_rfl)) (by unfold Func.isWrapper; first | (rw [if_pos (by decide +kernel)]; kernel_rfl) | (rw [if_neg (by decide +kernel)]; exact ⟨rfl, rfl⟩))
    (fun os started H enc _ => lifted os started H enc)
theorem proved : Rows.VmJoinsSaid := over
end Go.Proofs.Ytaalnjfmcjdimaa.E.Row
namespace Go.Proofs.Ytaalnjfmcjdimaa
/-- The row, under a short name, for the claim. -/
theorem vmJoins_holds : Rows.VmJoinsSaid := Ytaalnjfmcjdimaa.E.Row.proved
#print axioms vmJoins_holds
end Go.Proofs.Ytaalnjfmcjdimaa
