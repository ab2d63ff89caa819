/- The statement VmPrograms for every input: the plain facts on the functions' results, and the row. No condition. -/
import Derived.Test.YtaalnjfmcjdimaaGreatGP0
import Derived.Test.YtaalnjfmcjdimaaGreatGF0
import Derived.Test.YtaalnjfmcjdimaaGreatGF1
import Derived.Test.YtaalnjfmcjdimaaGreatGE2
import Derived.Test.YtaalnjfmcjdimaaGreatGF2
import Derived.Test.YtaalnjfmcjdimaaGreatRows
import Derived.Test.YtaalnjfmcjdimaaGreatChecked
/-
  What is known of an accepted program: every way through it. No program here, and no condition but those named.
-/
namespace Go.Proofs.YtaalnjfmcjdimaaGreat.E
open Go
set_option linter.unusedVariables false
set_option linter.unusedSimpArgs false
set_option maxRecDepth 100000
def opc (p : Prg) (i : Nat) : Int := (p.2.2.2.2.2.getD i (0, 0, 0)).1
def skc (p : Prg) (i : Nat) : Nat := (p.2.2.2.2.2.getD i (0, 0, 0)).2.2.toNat
def Goes (p : Prg) (i j : Nat) : Prop := (opc p i ≠ 15 ∧ j = i + 1) ∨ (15 ≤ opc p i ∧ j = i + 1 + skc p i)
def hgt (p : Prg) (pl : Pl) (i : Nat) : Int := (pl.getD i (-1, 0)).1 - tkn (opc p i) + lyn (opc p i)
structure Fine (p : Prg) (pl : Pl) (most : Int) (i : Nat) : Prop where
  h : 0 ≤ (pl.getD i (-1, 0)).1
  t : 0 ≤ tkn (opc p i)
  tk : tkn (opc p i) ≤ (pl.getD i (-1, 0)).1
  hm : hgt p pl i ≤ most
  to : ∀ j, Goes p i j → j < pl.length ∧ (pl.getD j (-1, 0)).1 = hgt p pl i ∧ (pl.getD i (-1, 0)).2 + 1 ≤ (pl.getD j (-1, 0)).2
theorem rch_ok {pl : Pl} {most h s : Int} {i : Nat} (e : (rch pl most i h s).1 = 0) : rch pl most i h s = (0, pl.set i (h, mx (pl.getD i (-1, 0)).2 s), mx most h) ∧ ((pl.getD i (-1, 0)).1 < 0 ∨ (pl.getD i (-1, 0)).1 = h) := by
  unfold rch at *
  split at e
  · cases e
  · rename_i hn
    rw [if_neg hn]
    exact ⟨rfl, by omega⟩
theorem getD_set {γ : Type} {l : List γ} {i j : Nat} {a z : γ} (hi : i < l.length) : (l.set i a).getD j z = if j = i then a else l.getD j z := by
  rw [List.getD_eq_getElem?_getD, List.getD_eq_getElem?_getD, List.getElem?_set]
  by_cases h : i = j
  · subst h
    simp [hi]
  · rw [if_neg h, if_neg (fun e => h e.symm)]
theorem mx_le {a b : Int} : a ≤ mx a b ∧ b ≤ mx a b := by unfold mx; split <;> omega
def Grow (pl pl' : Pl) : Prop := pl'.length = pl.length ∧ ∀ j, ((pl.getD j (-1, 0)).1 < 0 ∨ (pl'.getD j (-1, 0)).1 = (pl.getD j (-1, 0)).1) ∧ (pl.getD j (-1, 0)).2 ≤ (pl'.getD j (-1, 0)).2
theorem Grow.refl (pl : Pl) : Grow pl pl := ⟨rfl, fun j => ⟨.inr rfl, Int.le_refl _⟩⟩
theorem Grow.trans {a b c : Pl} (h : Grow a b) (k : Grow b c) (hb : ∀ j, (a.getD j (-1, 0)).1 < 0 ∨ 0 ≤ (a.getD j (-1, 0)).1 := by intro j; omega) : Grow a c := by
  refine ⟨k.1.trans h.1, fun j => ⟨?_, Int.le_trans (h.2 j).2 (k.2 j).2⟩⟩
  rcases (h.2 j).1 with x | x
  · exact .inl x
  · rcases (k.2 j).1 with y | y
    · rw [x] at y; exact .inl y
    · exact .inr (y.trans x)
theorem rch_grow {pl : Pl} {most h s : Int} {i : Nat} (hi : i < pl.length) (e : (rch pl most i h s).1 = 0) :
    Grow pl (rch pl most i h s).2.1 ∧ most ≤ (rch pl most i h s).2.2 ∧ h ≤ (rch pl most i h s).2.2 ∧ ((rch pl most i h s).2.1.getD i (-1, 0)).1 = h ∧ s ≤ ((rch pl most i h s).2.1.getD i (-1, 0)).2 ∧ ∀ j, j ≠ i → (rch pl most i h s).2.1.getD j (-1, 0) = pl.getD j (-1, 0) := by
  obtain ⟨r, hh⟩ := rch_ok e
  rw [r]
  have m := @mx_le most h
  have m2 := @mx_le (pl.getD i (-1, 0)).2 s
  refine ⟨⟨by simp, fun j => ?_⟩, m.1, m.2, ?_, ?_, fun j hj => ?_⟩
  · rw [getD_set hi]
    by_cases hj : j = i
    · subst hj
      rw [if_pos rfl]
      exact ⟨hh.imp id Eq.symm, m2.1⟩
    · rw [if_neg hj]
      exact ⟨.inr rfl, Int.le_refl _⟩
  · rw [getD_set hi, if_pos rfl]
  · rw [getD_set hi, if_pos rfl]; exact m2.2
  · rw [getD_set hi, if_neg hj]
theorem stp_fine {p : Prg} {pl : Pl} {most : Int} {i : Nat} (R : Rg p pl most i) (hi : i < p.2.2.2.2.2.length) (e : (stp p pl most i).1 = 0) :
    Fine p (stp p pl most i).2.1 (stp p pl most i).2.2 i ∧ Grow pl (stp p pl most i).2.1 ∧ most ≤ (stp p pl most i).2.2 ∧ (∀ j, j ≤ i → (stp p pl most i).2.1.getD j (-1, 0) = pl.getD j (-1, 0)) := by
  have hl := R.len
  have hc := badInstr_in (R.ins _ (List.getElem_mem hi))
  rw [← getD_at hi (z := (0, 0, 0))] at hc
  obtain ⟨⟨o0, o1⟩, ⟨a0, a1⟩, s0, s1⟩ := hc
  have ek : ((skc p i : Nat) : Int) = (p.2.2.2.2.2.getD i (0, 0, 0)).2.2 := by unfold skc; omega
  unfold stp at e ⊢
  by_cases k1 : (pl.getD i (-1, 0)).1 < 0
  · rw [if_pos k1] at e; cases e
  rw [if_neg k1] at e ⊢
  by_cases k2 : tkn (p.2.2.2.2.2.getD i (0, 0, 0)).1 < 0
  · rw [if_pos k2] at e; cases e
  rw [if_neg k2] at e ⊢
  by_cases k3 : (p.2.2.2.2.2.getD i (0, 0, 0)).2.1 ≥ arn p (p.2.2.2.2.2.getD i (0, 0, 0)).1
  · rw [if_pos k3] at e; cases e
  rw [if_neg k3] at e ⊢
  by_cases k4 : (p.2.2.2.2.2.getD i (0, 0, 0)).1 < 15 ∧ (p.2.2.2.2.2.getD i (0, 0, 0)).2.2 ≠ 0
  · rw [if_pos k4] at e; cases e
  rw [if_neg k4] at e ⊢
  by_cases k5 : (pl.getD i (-1, 0)).1 < tkn (p.2.2.2.2.2.getD i (0, 0, 0)).1
  · rw [if_pos k5] at e; cases e
  rw [if_neg k5] at e ⊢
  by_cases k6 : (pl.getD i (-1, 0)).1 - tkn (p.2.2.2.2.2.getD i (0, 0, 0)).1 + lyn (p.2.2.2.2.2.getD i (0, 0, 0)).1 > 1024
  · rw [if_pos k6] at e; cases e
  rw [if_neg k6] at e ⊢
  by_cases k7 : (i : Int) + 1 + (p.2.2.2.2.2.getD i (0, 0, 0)).2.2 > (p.2.2.2.2.2.length : Int)
  · rw [if_pos k7] at e; cases e
  rw [if_neg k7] at e ⊢
  rw [show i + 1 + (p.2.2.2.2.2.getD i (0, 0, 0)).2.2.toNat = i + 1 + skc p i from rfl] at e ⊢
  rw [show (pl.getD i (-1, 0)).1 - tkn (p.2.2.2.2.2.getD i (0, 0, 0)).1 + lyn (p.2.2.2.2.2.getD i (0, 0, 0)).1 = hgt p pl i from rfl] at e k6 ⊢
  rw [show (p.2.2.2.2.2.getD i (0, 0, 0)).1 = opc p i from rfl] at *
  have hj : i + 1 + skc p i < pl.length := by omega
  by_cases k8 : opc p i = 15
  · rw [if_pos k8] at e ⊢
    obtain ⟨g1, g2, g3, g4, g5, g6⟩ := rch_grow hj e
    generalize rch pl most (i + 1 + skc p i) (hgt p pl i) ((pl.getD i (-1, 0)).2 + 1) = y at *
    have gi := g6 i (by omega)
    refine ⟨⟨by rw [gi]; omega, by omega, by rw [gi]; omega, by unfold hgt at *; rw [gi]; omega, fun j hg => ?_⟩, g1, g2, fun j hj' => g6 j (by omega)⟩
    rcases hg with ⟨h1, _⟩ | ⟨_, rfl⟩
    · exact absurd k8 h1
    · refine ⟨by rw [g1.1]; exact hj, ?_, by rw [gi]; exact g5⟩
      rw [g4]
      unfold hgt
      rw [gi]
  · rw [if_neg k8] at e ⊢
    by_cases k9 : (rch pl most (i + 1) (hgt p pl i) ((pl.getD i (-1, 0)).2 + 1)).1 ≠ 0
    · rw [if_pos k9] at e
      exact absurd e k9
    rw [if_neg k9] at e ⊢
    have e1 : (rch pl most (i + 1) (hgt p pl i) ((pl.getD i (-1, 0)).2 + 1)).1 = 0 := by omega
    obtain ⟨g1, g2, g3, g4, g5, g6⟩ := rch_grow (show i + 1 < pl.length by omega) e1
    generalize hy : rch pl most (i + 1) (hgt p pl i) ((pl.getD i (-1, 0)).2 + 1) = y at *
    have gi := g6 i (by omega)
    by_cases k10 : opc p i < 15
    · rw [if_pos k10] at e ⊢
      refine ⟨⟨by rw [gi]; omega, by omega, by rw [gi]; omega, by unfold hgt at *; rw [gi]; omega, fun j hg => ?_⟩, g1, g2, fun j hj' => g6 j (by omega)⟩
      rcases hg with ⟨_, rfl⟩ | ⟨h1, _⟩
      · refine ⟨by rw [g1.1]; omega, ?_, by rw [gi]; exact g5⟩
        rw [g4]
        unfold hgt
        rw [gi]
      · omega
    · rw [if_neg k10] at e ⊢
      have hj2 : i + 1 + skc p i < y.2.1.length := by rw [g1.1]; exact hj
      obtain ⟨f1, f2, f3, f4, f5, f6⟩ := rch_grow hj2 e
      generalize rch y.2.1 y.2.2 (i + 1 + skc p i) (hgt p pl i) ((pl.getD i (-1, 0)).2 + 1) = x at *
      have fi := (f6 i (by omega)).trans gi
      refine ⟨⟨by rw [fi]; omega, by omega, by rw [fi]; omega, by unfold hgt at *; rw [fi]; omega, fun j hg => ?_⟩, g1.trans f1, Int.le_trans g2 f2, fun j hj' => (f6 j (by omega)).trans (g6 j (by omega))⟩
      rcases hg with ⟨_, rfl⟩ | ⟨_, rfl⟩
      · refine ⟨by rw [f1.1, g1.1]; omega, ?_, ?_⟩
        · have q := (f1.2 (i + 1)).1
          rw [g4] at q
          have : hgt p pl i = hgt p x.2.1 i := by unfold hgt; rw [fi]
          rw [← this]
          rcases q with q | q
          · have ly := lyn_in (opc p i)
            unfold hgt at q
            omega
          · exact q
        · rw [fi]
          exact Int.le_trans g5 (f1.2 (i + 1)).2
      · refine ⟨by rw [f1.1]; exact hj2, ?_, by rw [fi]; exact f5⟩
        rw [f4]
        unfold hgt
        rw [fi]
theorem Fine.grow {p : Prg} {pl pl' : Pl} {most most' : Int} {i : Nat} (h : Fine p pl most i) (g : Grow pl pl') (hi : pl'.getD i (-1, 0) = pl.getD i (-1, 0)) (hm : most ≤ most') : Fine p pl' most' i := by
  have e : hgt p pl' i = hgt p pl i := by unfold hgt; rw [hi]
  refine ⟨by rw [hi]; exact h.h, h.t, by rw [hi]; exact h.tk, by rw [e]; exact Int.le_trans h.hm hm, fun j hj => ?_⟩
  obtain ⟨a, b, c⟩ := h.to j hj
  refine ⟨by rw [g.1]; exact a, ?_, by rw [hi]; exact Int.le_trans c (g.2 j).2⟩
  rw [e]
  rcases (g.2 j).1 with x | x
  · exfalso
    rw [b] at x
    have t := h.tk
    have ly := lyn_in (opc p i)
    unfold hgt at x
    omega
  · exact x.trans b
theorem vrun_fine {p : Prg} : ∀ (m i : Nat) (pl : Pl) (most : Int), Rg p pl most i → i + m ≤ p.2.2.2.2.2.length → (vrun p m i pl most).1 = 0 → (∀ k, k < i → Fine p pl most k) →
    Rg p (vrun p m i pl most).2.1 (vrun p m i pl most).2.2 (i + m) ∧ Grow pl (vrun p m i pl most).2.1 ∧ most ≤ (vrun p m i pl most).2.2 ∧ ∀ k, k < i + m → Fine p (vrun p m i pl most).2.1 (vrun p m i pl most).2.2 k
  | 0, i, pl, most, R, h, e, hk => ⟨R, Grow.refl pl, Int.le_refl _, hk⟩
  | m + 1, i, pl, most, R, h, e, hk => by
    unfold vrun at e ⊢
    split at e
    · rename_i hne
      exact absurd e hne
    · rename_i hne
      rw [if_neg hne]
      have e1 : (stp p pl most i).1 = 0 := by omega
      obtain ⟨f, g, hm, hs⟩ := stp_fine R (show i < p.2.2.2.2.2.length by omega) e1
      obtain ⟨r1, r2, r3, r4⟩ := vrun_fine m (i + 1) _ _ (stp_rg R (by omega)) (by omega) e (fun k hki => by
        by_cases hkk : k = i
        · rw [hkk]; exact f
        · exact (hk k (by omega)).grow g (hs k (by omega)) hm)
      rw [show i + (m + 1) = i + 1 + m from by omega]
      exact ⟨r1, g.trans r2, Int.le_trans hm r3, r4⟩
theorem accepted {p : Prg} {S H : Int} (hc : chk p = 0) (h : vshape p = ((S, H), 0, ())) : ∃ pl : Pl, Rg p pl H p.2.2.2.2.2.length ∧ (∀ k, k < p.2.2.2.2.2.length → Fine p pl H k) ∧ pl.getD 0 (-1, 0) = (0, (pl.getD 0 (-1, 0)).2) ∧ pl.getD p.2.2.2.2.2.length (-1, 0) = (1, S) ∧ vrun p p.2.2.2.2.2.length 0 (pl0 p.2.2.2.2.2.length) 0 = (0, pl, H) := by
  unfold vshape vend at h
  have R := Rg.start hc
  by_cases he : (vrun p p.2.2.2.2.2.length 0 (pl0 p.2.2.2.2.2.length) 0).1 = 0
  · obtain ⟨r1, r2, r3, r4⟩ := vrun_fine p.2.2.2.2.2.length 0 (pl0 p.2.2.2.2.2.length) 0 R (by omega) he (fun k hk => by omega)
    generalize vrun p p.2.2.2.2.2.length 0 (pl0 p.2.2.2.2.2.length) 0 = y at *
    obtain ⟨y0, y1, y2⟩ := y
    simp only [Nat.zero_add] at h he r1 r2 r3 r4
    subst he
    rw [if_neg (by simp)] at h
    split at h
    · simp at h
    split at h
    · simp at h
    rename_i k1 k2
    simp only [Prod.mk.injEq, and_true] at h
    obtain ⟨h1, h2⟩ := h
    subst h1 h2
    refine ⟨y1, r1, r4, ?_, ?_, rfl⟩
    · have := (r2.2 0).1
      rw [show (pl0 p.2.2.2.2.2.length).getD 0 (-1, 0) = (0, 0) from rfl] at this
      simp only at this
      have e0 : (y1.getD 0 (-1, 0)).1 = 0 := by omega
      exact Prod.ext e0 rfl
    · have e0 : (y1.getD p.2.2.2.2.2.length (-1, 0)).1 = 1 := by omega
      exact Prod.ext e0 rfl
  · rw [if_pos he] at h
    simp only [Prod.mk.injEq, and_true] at h
    exact absurd h.2 he
end Go.Proofs.YtaalnjfmcjdimaaGreat.E
/-
  Programs put together: what is verified of them. No program here, and no condition but those named.
-/
namespace Go.Proofs.YtaalnjfmcjdimaaGreat.E
open Go
set_option linter.unusedVariables false
set_option linter.unusedSimpArgs false
set_option maxRecDepth 100000
def wc (p : Prg) (c : List (Int × Int × Int)) : Prg := (p.1, p.2.1, p.2.2.1, p.2.2.2.1, p.2.2.2.2.1, c)
theorem getD_app_l {γ : Type} {a b : List γ} {z : γ} {i : Nat} (h : i < a.length) : (a ++ b).getD i z = a.getD i z := by
  rw [List.getD_eq_getElem?_getD, List.getD_eq_getElem?_getD, List.getElem?_append_left h]
theorem getD_app_r {γ : Type} {a b : List γ} {z : γ} {n i : Nat} (h : a.length = n) : (a ++ b).getD (n + i) z = b.getD i z := by
  subst h
  rw [List.getD_eq_getElem?_getD, List.getD_eq_getElem?_getD, List.getElem?_append_right (by omega), Nat.add_sub_cancel_left]
theorem rch_app {pl e : Pl} {most h s : Int} {j : Nat} (hj : j < pl.length) : rch (pl ++ e) most j h s = ((rch pl most j h s).1, (rch pl most j h s).2.1 ++ e, (rch pl most j h s).2.2) := by
  unfold rch
  rw [getD_app_l hj]
  split
  · rfl
  · rw [List.set_append_left _ _ hj]
theorem stp_ok {p : Prg} {pl : Pl} {most : Int} {i : Nat} (e : (stp p pl most i).1 = 0) :
    ¬ (pl.getD i (-1, 0)).1 < 0 ∧ ¬ tkn (opc p i) < 0 ∧ ¬ (p.2.2.2.2.2.getD i (0, 0, 0)).2.1 ≥ arn p (opc p i) ∧ ¬ (opc p i < 15 ∧ (p.2.2.2.2.2.getD i (0, 0, 0)).2.2 ≠ 0) ∧ ¬ (pl.getD i (-1, 0)).1 < tkn (opc p i) ∧ ¬ hgt p pl i > 1024 ∧ ¬ (i : Int) + 1 + (p.2.2.2.2.2.getD i (0, 0, 0)).2.2 > (p.2.2.2.2.2.length : Int) := by
  unfold stp at e
  by_cases k1 : (pl.getD i (-1, 0)).1 < 0
  · rw [if_pos k1] at e; cases e
  rw [if_neg k1] at e
  by_cases k2 : tkn (p.2.2.2.2.2.getD i (0, 0, 0)).1 < 0
  · rw [if_pos k2] at e; cases e
  rw [if_neg k2] at e
  by_cases k3 : (p.2.2.2.2.2.getD i (0, 0, 0)).2.1 ≥ arn p (p.2.2.2.2.2.getD i (0, 0, 0)).1
  · rw [if_pos k3] at e; cases e
  rw [if_neg k3] at e
  by_cases k4 : (p.2.2.2.2.2.getD i (0, 0, 0)).1 < 15 ∧ (p.2.2.2.2.2.getD i (0, 0, 0)).2.2 ≠ 0
  · rw [if_pos k4] at e; cases e
  rw [if_neg k4] at e
  by_cases k5 : (pl.getD i (-1, 0)).1 < tkn (p.2.2.2.2.2.getD i (0, 0, 0)).1
  · rw [if_pos k5] at e; cases e
  rw [if_neg k5] at e
  by_cases k6 : (pl.getD i (-1, 0)).1 - tkn (p.2.2.2.2.2.getD i (0, 0, 0)).1 + lyn (p.2.2.2.2.2.getD i (0, 0, 0)).1 > 1024
  · rw [if_pos k6] at e; cases e
  rw [if_neg k6] at e
  by_cases k7 : (i : Int) + 1 + (p.2.2.2.2.2.getD i (0, 0, 0)).2.2 > (p.2.2.2.2.2.length : Int)
  · rw [if_pos k7] at e; cases e
  exact ⟨k1, k2, k3, k4, k5, k6, k7⟩
def ways (pl : Pl) (most : Int) (op h s : Int) (i k : Nat) : Int × Pl × Int :=
  if op = 15 then rch pl most (i + 1 + k) h s
  else if (rch pl most (i + 1) h s).1 ≠ 0 then rch pl most (i + 1) h s
  else if op < 15 then rch pl most (i + 1) h s
  else rch (rch pl most (i + 1) h s).2.1 (rch pl most (i + 1) h s).2.2 (i + 1 + k) h s
theorem stp_ways {p : Prg} {pl : Pl} {most : Int} {i : Nat} (k1 : ¬ (pl.getD i (-1, 0)).1 < 0) (k2 : ¬ tkn (opc p i) < 0) (k3 : ¬ (p.2.2.2.2.2.getD i (0, 0, 0)).2.1 ≥ arn p (opc p i)) (k4 : ¬ (opc p i < 15 ∧ (p.2.2.2.2.2.getD i (0, 0, 0)).2.2 ≠ 0)) (k5 : ¬ (pl.getD i (-1, 0)).1 < tkn (opc p i)) (k6 : ¬ hgt p pl i > 1024) (k7 : ¬ (i : Int) + 1 + (p.2.2.2.2.2.getD i (0, 0, 0)).2.2 > (p.2.2.2.2.2.length : Int)) :
    stp p pl most i = ways pl most (opc p i) (hgt p pl i) ((pl.getD i (-1, 0)).2 + 1) i (skc p i) := by
  unfold hgt opc at *
  unfold stp ways skc
  rw [if_neg k1, if_neg k2, if_neg k3, if_neg k4, if_neg k5, if_neg k6, if_neg k7]
theorem ways_app {pl e : Pl} {most op h s : Int} {i k : Nat} (hj : i + 1 + k < pl.length) : ways (pl ++ e) most op h s i k = ((ways pl most op h s i k).1, (ways pl most op h s i k).2.1 ++ e, (ways pl most op h s i k).2.2) := by
  have l1 := rch_len pl most (i + 1) h s
  unfold ways
  rw [rch_app (show i + 1 + k < pl.length from hj), rch_app (show i + 1 < pl.length by omega)]
  split
  · rfl
  split
  · rfl
  split
  · rfl
  · rw [rch_app (by rw [l1]; exact hj)]
theorem ways_most {pl : Pl} {most op h s : Int} {i k : Nat} (e : (ways pl most op h s i k).1 = 0) : (ways pl most op h s i k).2.2 = mx most h := by
  have two : mx (mx most h) h = mx most h := by unfold mx; (repeat' split) <;> omega
  unfold ways at e ⊢
  split at e
  · rename_i k; rw [if_pos k, (rch_ok e).1]
  rename_i k1
  rw [if_neg k1]
  split at e
  · rename_i k; exact absurd e k
  rename_i k2
  rw [if_neg k2]
  split at e
  · rename_i k; rw [if_pos k, (rch_ok e).1]
  rename_i k3
  rw [if_neg k3, (rch_ok e).1]
  have e1 : (rch pl most (i + 1) h s).1 = 0 := by omega
  rw [(rch_ok e1).1]
  exact two
section
variable {p : Prg} {d : List (Int × Int × Int)} {e : Pl}
theorem opc_app {i : Nat} (hi : i < p.2.2.2.2.2.length) : (p.2.2.2.2.2 ++ d).getD i (0, 0, 0) = p.2.2.2.2.2.getD i (0, 0, 0) := getD_app_l hi
theorem stp_app {pl : Pl} {most : Int} {i : Nat} (R : Rg p pl most i) (hi : i < p.2.2.2.2.2.length) (h : (stp p pl most i).1 = 0) : stp (wc p (p.2.2.2.2.2 ++ d)) (pl ++ e) most i = (0, (stp p pl most i).2.1 ++ e, (stp p pl most i).2.2) := by
  obtain ⟨k1, k2, k3, k4, k5, k6, k7⟩ := stp_ok h
  have hl := R.len
  have hc := badInstr_in (R.ins _ (List.getElem_mem hi))
  rw [← getD_at hi (z := (0, 0, 0))] at hc
  have eo : opc (wc p (p.2.2.2.2.2 ++ d)) i = opc p i := by unfold opc wc; simp only []; rw [opc_app hi]
  have es : skc (wc p (p.2.2.2.2.2 ++ d)) i = skc p i := by unfold skc wc; simp only []; rw [opc_app hi]
  have eg : (wc p (p.2.2.2.2.2 ++ d)).2.2.2.2.2.getD i (0, 0, 0) = p.2.2.2.2.2.getD i (0, 0, 0) := opc_app hi
  have ep : (pl ++ e).getD i (-1, 0) = pl.getD i (-1, 0) := getD_app_l (by omega)
  have eh : hgt (wc p (p.2.2.2.2.2 ++ d)) (pl ++ e) i = hgt p pl i := by unfold hgt; rw [ep, eo]
  have hs : ((skc p i : Nat) : Int) = (p.2.2.2.2.2.getD i (0, 0, 0)).2.2 := by unfold skc; omega
  rw [stp_ways k1 k2 k3 k4 k5 k6 k7] at h ⊢
  rw [stp_ways (by rw [ep]; exact k1) (by rw [eo]; exact k2) (by rw [eg, eo]; exact k3) (by rw [eg, eo]; exact k4) (by rw [ep, eo]; exact k5) (by rw [eh]; exact k6) (by rw [eg]; simp only [wc, List.length_append]; omega), eo, eh, ep, es, ways_app (by omega), h]
theorem vrun_app : ∀ (m i : Nat) (pl : Pl) (most : Int), Rg p pl most i → i + m ≤ p.2.2.2.2.2.length → (vrun p m i pl most).1 = 0 → vrun (wc p (p.2.2.2.2.2 ++ d)) m i (pl ++ e) most = (0, (vrun p m i pl most).2.1 ++ e, (vrun p m i pl most).2.2)
  | 0, i, pl, most, R, hi, h => rfl
  | m + 1, i, pl, most, R, hi, h => by
    unfold vrun at h ⊢
    split at h
    · rename_i k; exact absurd h k
    rename_i k
    have e1 : (stp p pl most i).1 = 0 := by omega
    rw [if_neg k, stp_app R (by omega) e1, if_neg (by simp)]
    exact vrun_app m (i + 1) _ _ (stp_rg R (by omega)) (by omega) h
theorem vrun_go {r : Prg} {m i : Nat} {pl : Pl} {most : Int} (h : (stp r pl most i).1 = 0) : vrun r (m + 1) i pl most = vrun r m (i + 1) (stp r pl most i).2.1 (stp r pl most i).2.2 := by rw [vrun, if_neg (by omega)]
theorem vrun_stop {r : Prg} {m i : Nat} {pl : Pl} {most : Int} (h : (stp r pl most i).1 ≠ 0) : vrun r (m + 1) i pl most = stp r pl most i := by rw [vrun, if_pos h]
theorem vrun_split {r : Prg} : ∀ (m k i : Nat) (pl : Pl) (most : Int), (vrun r m i pl most).1 = 0 → vrun r (m + k) i pl most = vrun r k (i + m) (vrun r m i pl most).2.1 (vrun r m i pl most).2.2
  | 0, k, i, pl, most, h => by rw [Nat.zero_add]; rfl
  | m + 1, k, i, pl, most, h => by
    rw [show m + 1 + k = (m + k) + 1 from by omega]
    by_cases hs : (stp r pl most i).1 = 0
    · rw [vrun_go hs] at h ⊢
      rw [vrun_go hs, vrun_split m k (i + 1) _ _ h, show i + 1 + m = i + (m + 1) from by omega]
    · rw [vrun_stop hs] at h
      exact absurd h hs
theorem vrun_err {r : Prg} : ∀ (m k i : Nat) (pl : Pl) (most : Int), (vrun r m i pl most).1 ≠ 0 → vrun r (m + k) i pl most = vrun r m i pl most
  | 0, k, i, pl, most, h => absurd rfl h
  | m + 1, k, i, pl, most, h => by
    rw [show m + 1 + k = (m + k) + 1 from by omega]
    unfold vrun at h ⊢
    split at h
    · rename_i x; rw [if_pos x, if_pos x]
    · rename_i x
      rw [if_neg x, if_neg x, vrun_err m k (i + 1) _ _ h]
end
/-! ### the second one, upon the first one's pile -/
def shf (S : Int) (x : Int × Int) : Int × Int := if x.1 < 0 then (-1, 0) else (x.1 + 1, x.2 + S)
def Zer (pl : Pl) : Prop := ∀ x ∈ pl, (x.1 < 0 → x = (-1, 0)) ∧ 0 ≤ x.2
theorem getD_map {pl : Pl} {S : Int} {j : Nat} (hj : j < pl.length) : (pl.map (shf S)).getD j (-1, 0) = shf S (pl.getD j (-1, 0)) := by
  rw [getD_at (show j < (pl.map (shf S)).length by simpa using hj), getD_at hj, List.getElem_map]
theorem rch_zer {pl : Pl} {m h s : Int} {j : Nat} (hz : Zer pl) (h0 : 0 ≤ h) (s0 : 0 ≤ s) : Zer (rch pl m j h s).2.1 := by
  unfold rch
  split
  · exact hz
  · intro x hx
    rcases mem_set hx with hx | rfl
    · exact hz x hx
    · refine ⟨fun h => ?_, ?_⟩
      · simp only at h; omega
      · have := @mx_le (pl.getD j (-1, 0)).2 s
        simp only
        omega
section
variable {A e : Pl} {n : Nat} {H S : Int} (hA : A.length = n) (hS : 0 ≤ S)
include hA hS
theorem rch_shift {pl : Pl} {m h s : Int} {j : Nat} (hj : j < pl.length) (hz : Zer pl) (h0 : 0 ≤ h) (s0 : 0 ≤ s) :
    rch (A ++ (pl.map (shf S) ++ e)) (mx H (m + 1)) (n + j) (h + 1) (s + S) = ((rch pl m j h s).1, A ++ ((rch pl m j h s).2.1.map (shf S) ++ e), mx H ((rch pl m j h s).2.2 + 1)) := by
  have hm : j < (pl.map (shf S)).length := by simpa using hj
  have g : (A ++ (pl.map (shf S) ++ e)).getD (n + j) (-1, 0) = shf S (pl.getD j (-1, 0)) := by
    rw [getD_app_r hA, getD_app_l hm, getD_map hj]
  have zz := hz (pl.getD j (-1, 0)) (by rw [getD_at hj]; exact List.getElem_mem hj)
  unfold rch
  rw [g]
  generalize pl.getD j (-1, 0) = x at *
  obtain ⟨x0, x1⟩ := x
  simp only at zz
  have set : ∀ a : Int × Int, (A ++ (pl.map (shf S) ++ e)).set (n + j) a = A ++ ((pl.map (shf S)).set j a ++ e) := fun a => by
    rw [List.set_append_right _ _ (by omega), List.set_append_left _ _ (by rw [hA, Nat.add_sub_cancel_left]; exact hm), hA, Nat.add_sub_cancel_left]
  have mm : mx (mx H (m + 1)) (h + 1) = mx H (mx m h + 1) := by unfold mx; (repeat' split) <;> omega
  by_cases hx : x0 < 0
  · have := zz.1 hx
    simp only [Prod.mk.injEq] at this
    obtain ⟨rfl, rfl⟩ := this
    rw [show shf S (-1, 0) = (-1, 0) from rfl, if_neg (by simp), if_neg (by simp), set, mm, List.map_set]
    rw [show shf S (h, mx 0 s) = (h + 1, mx 0 (s + S)) from by
      unfold shf mx
      rw [if_neg (by simp only; omega)]
      simp only [Prod.mk.injEq, true_and]
      (repeat' split) <;> omega]
  · rw [show shf S (x0, x1) = (x0 + 1, x1 + S) from by unfold shf; rw [if_neg hx]]
    simp only []
    by_cases hh : x0 = h
    · rw [if_neg (by omega), if_neg (by omega), set, mm, List.map_set]
      rw [show shf S (h, mx x1 s) = (h + 1, mx (x1 + S) (s + S)) from by
        unfold shf mx
        rw [if_neg (by simp only; omega)]
        simp only [Prod.mk.injEq, true_and]
        (repeat' split) <;> omega]
    · rw [if_pos (by omega), if_pos (by omega)]
theorem ways_shift {pl : Pl} {m op h s : Int} {i k : Nat} (hj : i + 1 + k < pl.length) (hz : Zer pl) (h0 : 0 ≤ h) (s0 : 0 ≤ s) :
    ways (A ++ (pl.map (shf S) ++ e)) (mx H (m + 1)) op (h + 1) (s + S) (n + i) k = ((ways pl m op h s i k).1, A ++ ((ways pl m op h s i k).2.1.map (shf S) ++ e), mx H ((ways pl m op h s i k).2.2 + 1)) ∧ Zer (ways pl m op h s i k).2.1 := by
  have l1 := rch_len pl m (i + 1) h s
  have z1 := rch_zer (m := m) (j := i + 1) hz h0 s0
  have r1 := rch_shift (e := e) (H := H) (m := m) hA hS (show i + 1 < pl.length by omega) hz h0 s0
  have r2 := rch_shift (e := e) (H := H) (m := m) hA hS (show i + 1 + k < pl.length from hj) hz h0 s0
  unfold ways
  rw [show n + i + 1 = n + (i + 1) from by omega, show n + (i + 1) + k = n + (i + 1 + k) from by omega, r1, r2]
  split
  · exact ⟨rfl, rch_zer hz h0 s0⟩
  split
  · exact ⟨rfl, z1⟩
  split
  · exact ⟨rfl, z1⟩
  · rw [rch_shift hA hS (by rw [l1]; exact hj) z1 h0 s0]
    exact ⟨rfl, rch_zer z1 h0 s0⟩
end
section
variable {p q : Prg} {d : List (Int × Int × Int)} {A e : Pl} {H S : Int} (hA : A.length = p.2.2.2.2.2.length) (hS : 0 ≤ S) (ha : ∀ op, arn q op = arn p op)
include hA hS ha
theorem stp_shift {pl : Pl} {m : Int} {i : Nat} (R : Rg q pl m i) (hz : Zer pl) (hi : i < q.2.2.2.2.2.length) (h : (stp q pl m i).1 = 0) :
    (if hgt q pl i = 1024 then (stp (wc p (p.2.2.2.2.2 ++ (q.2.2.2.2.2 ++ d))) (A ++ (pl.map (shf S) ++ e)) (mx H (m + 1)) (p.2.2.2.2.2.length + i)).1 = 171 ∧ (stp q pl m i).2.2 = 1024
    else stp (wc p (p.2.2.2.2.2 ++ (q.2.2.2.2.2 ++ d))) (A ++ (pl.map (shf S) ++ e)) (mx H (m + 1)) (p.2.2.2.2.2.length + i) = (0, A ++ ((stp q pl m i).2.1.map (shf S) ++ e), mx H ((stp q pl m i).2.2 + 1)) ∧ (m ≤ 1023 → (stp q pl m i).2.2 ≤ 1023)) ∧ Zer (stp q pl m i).2.1 := by
  obtain ⟨k1, k2, k3, k4, k5, k6, k7⟩ := stp_ok h
  have hl := R.len
  have hc := badInstr_in (R.ins _ (List.getElem_mem hi))
  rw [← getD_at hi (z := (0, 0, 0))] at hc
  have hip : i < pl.length := by omega
  have eg : (wc p (p.2.2.2.2.2 ++ (q.2.2.2.2.2 ++ d))).2.2.2.2.2.getD (p.2.2.2.2.2.length + i) (0, 0, 0) = q.2.2.2.2.2.getD i (0, 0, 0) := by
    unfold wc
    simp only []
    rw [getD_app_r rfl, getD_app_l hi]
  have eo : opc (wc p (p.2.2.2.2.2 ++ (q.2.2.2.2.2 ++ d))) (p.2.2.2.2.2.length + i) = opc q i := by unfold opc; rw [eg]
  have es : skc (wc p (p.2.2.2.2.2 ++ (q.2.2.2.2.2 ++ d))) (p.2.2.2.2.2.length + i) = skc q i := by unfold skc; rw [eg]
  have ep : (A ++ (pl.map (shf S) ++ e)).getD (p.2.2.2.2.2.length + i) (-1, 0) = ((pl.getD i (-1, 0)).1 + 1, (pl.getD i (-1, 0)).2 + S) := by
    rw [getD_app_r hA, getD_app_l (by simpa using hip), getD_map hip]
    unfold shf
    rw [if_neg k1]
  have eh : hgt (wc p (p.2.2.2.2.2 ++ (q.2.2.2.2.2 ++ d))) (A ++ (pl.map (shf S) ++ e)) (p.2.2.2.2.2.length + i) = hgt q pl i + 1 := by
    unfold hgt
    rw [ep, eo]
    simp only
    omega
  have hs : ((skc q i : Nat) : Int) = (q.2.2.2.2.2.getD i (0, 0, 0)).2.2 := by unfold skc; omega
  have ly := lyn_in (opc q i)
  have h0 : 0 ≤ hgt q pl i := by unfold hgt; omega
  have s0 : 0 ≤ (pl.getD i (-1, 0)).2 + 1 := by
    rw [getD_at hip]
    have := (R.hs _ (List.getElem_mem hip)).2
    omega
  have hM := R.m
  have hw := stp_ways k1 k2 k3 k4 k5 k6 k7 (most := m)
  have wm := h
  rw [hw] at wm
  have wm := ways_most wm
  obtain ⟨sh, zz⟩ := ways_shift (A := A) (e := e) (H := H) (m := m) (op := opc q i) hA hS (show i + 1 + skc q i < pl.length by omega) hz h0 s0
  rw [← hw] at sh zz wm
  rw [h] at sh
  refine ⟨?_, zz⟩
  by_cases hb : hgt q pl i = 1024
  · rw [if_pos hb]
    refine ⟨?_, by rw [wm, hb]; unfold mx; split <;> omega⟩
    unfold stp
    rw [ep, eg]
    simp only []
    rw [show (q.2.2.2.2.2.getD i (0, 0, 0)).1 = opc q i from rfl]
    rw [if_neg (by omega), if_neg k2, if_neg (by rw [show arn (wc p (p.2.2.2.2.2 ++ (q.2.2.2.2.2 ++ d))) (opc q i) = arn p (opc q i) from rfl, ← ha]; exact k3), if_neg k4, if_neg (by omega), if_pos (by unfold hgt at hb; omega)]
  · rw [if_neg hb]
    refine ⟨?_, fun hm => by rw [wm]; unfold mx; split <;> omega⟩
    rw [stp_ways (by rw [ep]; simp only; omega) (by rw [eo]; exact k2) (by rw [eg, eo, show arn (wc p (p.2.2.2.2.2 ++ (q.2.2.2.2.2 ++ d))) (opc q i) = arn p (opc q i) from rfl, ← ha]; exact k3) (by rw [eg, eo]; exact k4) (by rw [ep, eo]; simp only; omega) (by rw [eh]; omega) (by rw [eg]; simp only [wc, List.length_append]; omega), eo, eh, ep, es]
    rw [show (pl.getD i (-1, 0)).2 + S + 1 = (pl.getD i (-1, 0)).2 + 1 + S from by omega]
    exact sh
theorem vrun_shift : ∀ (m i : Nat) (pl : Pl) (most : Int), Rg q pl most i → Zer pl → i + m ≤ q.2.2.2.2.2.length → (vrun q m i pl most).1 = 0 → most ≤ 1023 →
    ((vrun (wc p (p.2.2.2.2.2 ++ (q.2.2.2.2.2 ++ d))) m (p.2.2.2.2.2.length + i) (A ++ (pl.map (shf S) ++ e)) (mx H (most + 1))).1 = 171 ∧ 1024 ≤ (vrun q m i pl most).2.2) ∨ (vrun (wc p (p.2.2.2.2.2 ++ (q.2.2.2.2.2 ++ d))) m (p.2.2.2.2.2.length + i) (A ++ (pl.map (shf S) ++ e)) (mx H (most + 1)) = (0, A ++ ((vrun q m i pl most).2.1.map (shf S) ++ e), mx H ((vrun q m i pl most).2.2 + 1)) ∧ (vrun q m i pl most).2.2 ≤ 1023)
  | 0, i, pl, most, R, hz, hi, h, hm => .inr ⟨rfl, hm⟩
  | m + 1, i, pl, most, R, hz, hi, h, hm => by
    unfold vrun at h ⊢
    split at h
    · rename_i k; exact absurd h k
    rename_i k
    have e1 : (stp q pl most i).1 = 0 := by omega
    have R1 := stp_rg R (show i < q.2.2.2.2.2.length by omega)
    obtain ⟨sh, zz⟩ := stp_shift (d := d) (e := e) (H := H) hA hS ha R hz (by omega) e1
    rw [if_neg k]
    by_cases hb : hgt q pl i = 1024
    · rw [if_pos hb] at sh
      refine .inl ⟨?_, ?_⟩
      · rw [if_pos (by rw [sh.1]; decide)]
        exact sh.1
      · -- the greatest height only grows
        have mono : ∀ (m i : Nat) (pl : Pl) (most : Int), Rg q pl most i → i + m ≤ q.2.2.2.2.2.length → (vrun q m i pl most).1 = 0 → most ≤ (vrun q m i pl most).2.2 := by
          intro m
          induction m with
          | zero => intro i pl most _ _ _; exact Int.le_refl _
          | succ m ih =>
            intro i pl most R hi h
            unfold vrun at h ⊢
            split at h
            · rename_i k; exact absurd h k
            rename_i k
            rw [if_neg k]
            exact Int.le_trans (stp_fine R (by omega) (by omega)).2.2.1 (ih (i + 1) _ _ (stp_rg R (by omega)) (by omega) h)
        have := mono m (i + 1) _ _ R1 (by omega) h
        omega
    · rw [if_neg hb] at sh
      obtain ⟨s1, s2⟩ := sh
      rw [s1, if_neg (by simp)]
      exact vrun_shift m (i + 1) _ _ R1 zz (by omega) h (s2 hm)
end
end Go.Proofs.YtaalnjfmcjdimaaGreat.E
/-
  Programs put together: what is verified of the whole. No program here, and no condition but those named.
-/
namespace Go.Proofs.YtaalnjfmcjdimaaGreat.E
open Go
set_option linter.unusedVariables false
set_option linter.unusedSimpArgs false
set_option maxRecDepth 100000
theorem end_le {p : Prg} {pl : Pl} {H : Int} (hl : pl.length = p.2.2.2.2.2.length + 1) (hf : ∀ k, k < p.2.2.2.2.2.length → Fine p pl H k) : ∀ (m i : Nat), i + m = p.2.2.2.2.2.length → m ≠ 0 → (pl.getD p.2.2.2.2.2.length (-1, 0)).1 ≤ H
  | m, i, h, hm => by
    have hg : ∃ j, Goes p i j ∧ i < j := by
      by_cases h15 : opc p i = 15
      · exact ⟨_, .inr ⟨by omega, rfl⟩, by omega⟩
      · exact ⟨_, .inl ⟨h15, rfl⟩, by omega⟩
    obtain ⟨j, hj, hij⟩ := hg
    have f := hf i (by omega)
    obtain ⟨a, b, c⟩ := f.to j hj
    by_cases e : j = p.2.2.2.2.2.length
    · rw [e] at b
      rw [b]
      exact f.hm
    · exact end_le hl hf (p.2.2.2.2.2.length - j) j (by omega) (by omega)
termination_by m => m
decreasing_by omega
theorem pl0_zer (n : Nat) : Zer (pl0 n) := by
  intro x hx
  unfold pl0 at hx
  rcases List.mem_cons.1 hx with rfl | hx
  · simp
  · rw [(List.mem_replicate.1 hx).2]
    simp
theorem pl0_app (a b : Nat) : pl0 (a + b) = pl0 a ++ List.replicate b (-1, 0) := by
  unfold pl0
  rw [List.cons_append, List.replicate_append_replicate]
theorem shf_pl0 (S : Int) (n : Nat) : (pl0 n).map (shf S) = (1, S) :: List.replicate n (-1, 0) := by
  unfold pl0
  rw [List.map_cons, List.map_replicate]
  simp [shf]
structure Join (p : Prg) (c : List (Int × Int × Int)) (S T H K : Int) : Prop where
  cp : chk p = 0
  cq : chk (wc p c) = 0
  vp : vshape p = ((S, H), 0, ())
  vq : vshape (wc p c) = ((T, K), 0, ())
theorem Join.run {p : Prg} {c : List (Int × Int × Int)} {S T H K : Int} (h : Join p c S T H K) (d : List (Int × Int × Int)) :
    1 ≤ H ∧ 0 ≤ S ∧ 0 ≤ T ∧ 1 ≤ K ∧ H ≤ 1024 ∧ (((vrun (wc p (p.2.2.2.2.2 ++ (c ++ d))) (p.2.2.2.2.2.length + c.length) 0 (pl0 (p.2.2.2.2.2.length + c.length + d.length)) 0).1 = 171 ∧ 1024 ≤ K) ∨
      ∃ A Q : Pl, A.length = p.2.2.2.2.2.length ∧ Q.length = c.length + 1 ∧ Q.getD c.length (-1, 0) = (1, T) ∧ vrun (wc p (p.2.2.2.2.2 ++ (c ++ d))) (p.2.2.2.2.2.length + c.length) 0 (pl0 (p.2.2.2.2.2.length + c.length + d.length)) 0 = (0, A ++ (Q.map (shf S) ++ List.replicate d.length (-1, 0)), mx H (K + 1)) ∧ K ≤ 1023) := by
  obtain ⟨cp, cq, vp, vq⟩ := h
  obtain ⟨P, RP, FP, zP, eP, uP⟩ := accepted cp vp
  obtain ⟨Q, RQ, FQ, zQ, eQ, uQ⟩ := accepted cq vq
  have lc : (wc p c).2.2.2.2.2.length = c.length := rfl
  have lP := RP.len
  have lQ := RQ.len
  rw [lc] at lQ eQ uQ
  have nP : p.2.2.2.2.2.length ≠ 0 := fun e => by
    rw [e, zP] at eP
    simp at eP
  have nQ : c.length ≠ 0 := fun e => by
    rw [e, zQ] at eQ
    simp at eQ
  have hH : 1 ≤ H := by
    have := end_le lP FP p.2.2.2.2.2.length 0 (by omega) nP
    rw [eP] at this
    exact this
  have hK : 1 ≤ K := by
    have := end_le RQ.len FQ c.length 0 (by rw [lc]; omega) nQ
    rw [lc, eQ] at this
    exact this
  have hS : 0 ≤ S := by
    have := (RP.hs P[p.2.2.2.2.2.length] (List.getElem_mem (by omega))).2
    rw [← getD_at (show p.2.2.2.2.2.length < P.length by omega) (z := (-1, 0)), eP] at this
    exact this.1
  have hT : 0 ≤ T := by
    have := (RQ.hs Q[c.length] (List.getElem_mem (by omega))).2
    rw [← getD_at (show c.length < Q.length by omega) (z := (-1, 0)), eQ] at this
    exact this.1
  refine ⟨hH, hS, hT, hK, RP.m.2, ?_⟩
  have cut : P = P.take p.2.2.2.2.2.length ++ [(1, S)] := by
    have hx : P[p.2.2.2.2.2.length] = (1, S) := by rw [← getD_at (show p.2.2.2.2.2.length < P.length by omega) (z := (-1, 0)), eP]
    rw [← hx, ← List.take_succ_eq_append_getElem (by omega), List.take_of_length_le (by omega)]
  have hA : (P.take p.2.2.2.2.2.length).length = p.2.2.2.2.2.length := by rw [List.length_take]; omega
  generalize P.take p.2.2.2.2.2.length = A at *
  have first : vrun (wc p (p.2.2.2.2.2 ++ (c ++ d))) p.2.2.2.2.2.length 0 (pl0 (p.2.2.2.2.2.length + c.length + d.length)) 0 = (0, P ++ List.replicate (c.length + d.length) (-1, 0), H) := by
    rw [show p.2.2.2.2.2.length + c.length + d.length = p.2.2.2.2.2.length + (c.length + d.length) from by omega, pl0_app]
    have := vrun_app (d := c ++ d) (e := List.replicate (c.length + d.length) (-1, 0)) p.2.2.2.2.2.length 0 (pl0 p.2.2.2.2.2.length) 0 (Rg.start cp) (by omega) (by rw [uP])
    rw [uP] at this
    exact this
  have turn : P ++ List.replicate (c.length + d.length) (-1, 0) = A ++ ((pl0 c.length).map (shf S) ++ List.replicate d.length (-1, 0)) := by
    rw [cut, shf_pl0, List.append_assoc, List.cons_append, List.cons_append, List.nil_append, List.replicate_append_replicate]
  have m0 : mx H (0 + 1) = H := by unfold mx; split <;> omega
  have sh := vrun_shift (p := p) (q := wc p c) (d := d) (A := A) (e := List.replicate d.length (-1, 0)) (H := H) hA hS (fun op => rfl) c.length 0 (pl0 c.length) 0 (Rg.start cq) (pl0_zer _) (by rw [lc]; omega) (by rw [uQ]) (by omega)
  rw [uQ, m0, ← turn, Nat.add_zero] at sh
  simp only [] at sh
  rw [vrun_split p.2.2.2.2.2.length c.length 0 _ _ (by rw [first]), first, Nat.zero_add]
  rcases sh with ⟨s1, s2⟩ | ⟨s1, s2⟩
  · exact .inl ⟨s1, s2⟩
  · exact .inr ⟨A, Q, hA, lQ, eQ, s1, s2⟩
theorem Join.one {p : Prg} {c : List (Int × Int × Int)} {S T H K o : Int} (h : Join p c S T H K) (ho : 5 ≤ o ∧ o ≤ 9) :
    vshape (wc p (p.2.2.2.2.2 ++ (c ++ [(o, 0, 0)]))) = if mx H (K + 1) > 1024 then ((0, 0), 171, ()) else ((S + T + 1, mx H (K + 1)), 0, ()) := by
  obtain ⟨hH, hS, hT, hK, hH2, r⟩ := h.run [(o, 0, 0)]
  have ln : (wc p (p.2.2.2.2.2 ++ (c ++ [(o, 0, 0)]))).2.2.2.2.2.length = p.2.2.2.2.2.length + c.length + 1 := by simp [wc]; omega
  unfold vshape
  rw [ln]
  have r := r
  rw [show ([(o, 0, 0)] : List (Int × Int × Int)).length = 1 from rfl] at r
  rcases r with ⟨r1, r2⟩ | ⟨A, Q, hA, lQ, eQ, r1, r2⟩
  · rw [vrun_err _ 1 0 _ _ (by rw [r1]; decide)]
    unfold vend
    rw [r1, if_pos (by decide), if_pos (by unfold mx; split <;> omega)]
  · rw [vrun_split _ 1 0 _ _ (by rw [r1]), r1, Nat.zero_add]
    simp only []
    have eg : (wc p (p.2.2.2.2.2 ++ (c ++ [(o, 0, 0)]))).2.2.2.2.2.getD (p.2.2.2.2.2.length + c.length) (0, 0, 0) = (o, 0, 0) := by
      unfold wc
      simp only []
      rw [getD_app_r rfl, show c.length = c.length + 0 from rfl, getD_app_r rfl]
      rfl
    have ep : (A ++ (Q.map (shf S) ++ List.replicate 1 (-1, 0))).getD (p.2.2.2.2.2.length + c.length) (-1, 0) = (2, T + S) := by
      rw [getD_app_r hA, getD_app_l (by simp; omega), getD_map (by omega), eQ]
      simp [shf]
    have en : (A ++ (Q.map (shf S) ++ List.replicate 1 (-1, 0))).getD (p.2.2.2.2.2.length + c.length + 1) (-1, 0) = (-1, 0) := by
      rw [show p.2.2.2.2.2.length + c.length + 1 = p.2.2.2.2.2.length + (c.length + 1) from by omega, getD_app_r hA, show c.length + 1 = (c.length + 1) + 0 from rfl, getD_app_r (by simp; omega)]
      rfl
    have hlen : (A ++ (Q.map (shf S) ++ List.replicate 1 ((-1 : Int), (0 : Int)))).length = p.2.2.2.2.2.length + c.length + 2 := by simp; omega
    generalize A ++ (Q.map (shf S) ++ List.replicate 1 ((-1 : Int), (0 : Int))) = X at *
    have t1 : tkn o = 2 := by unfold tkn; rw [if_neg (by omega), if_pos (by omega)]
    have t2 : lyn o = 1 := by unfold lyn; rw [if_neg (by omega)]
    have t3 : arn (wc p (p.2.2.2.2.2 ++ (c ++ [(o, 0, 0)]))) o = 1 := by unfold arn; rw [if_neg (by omega), if_neg (by omega), if_neg (by omega), if_neg (by omega)]
    have ms : mx (mx H (K + 1)) 1 = mx H (K + 1) := by unfold mx; (repeat' split) <;> omega
    have hst : stp (wc p (p.2.2.2.2.2 ++ (c ++ [(o, 0, 0)]))) X (mx H (K + 1)) (p.2.2.2.2.2.length + c.length) = (0, X.set (p.2.2.2.2.2.length + c.length + 1) (1, T + S + 1), mx H (K + 1)) := by
      rw [stp_ways (by rw [ep]; simp) (by unfold opc; rw [eg]; simp only; omega) (by unfold opc; rw [eg]; simp only; omega) (by rw [eg]; simp) (by unfold opc; rw [eg, ep]; simp only; omega) (by unfold hgt opc; rw [eg, ep]; simp only; omega) (by rw [eg, ln]; simp only; omega)]
      unfold ways hgt opc
      rw [eg, ep]
      simp only []
      rw [t1, t2, if_neg (by omega)]
      have hr : rch X (mx H (K + 1)) (p.2.2.2.2.2.length + c.length + 1) (2 - 2 + 1) (T + S + 1) = (0, X.set (p.2.2.2.2.2.length + c.length + 1) (1, T + S + 1), mx H (K + 1)) := by
        unfold rch
        rw [en, if_neg (by simp)]
        rw [show (2 : Int) - 2 + 1 = 1 from rfl, ms]
        rw [show mx ((-1 : Int), (0 : Int)).2 (T + S + 1) = T + S + 1 from by unfold mx; rw [if_pos (by simp only; omega)]]
      rw [hr, if_neg (by simp), if_pos (by omega)]
    rw [vrun_go (by rw [hst]), hst]
    unfold vrun vend
    simp only []
    rw [getD_set (by omega), if_pos rfl, if_neg (by simp), if_neg (by simp), if_neg (by simp)]
    rw [if_neg (by unfold mx; split <;> omega), show T + S + 1 = S + T + 1 from by omega]
end Go.Proofs.YtaalnjfmcjdimaaGreat.E
/-
  Each instruction of an accepted program does what is told of it. No condition but those that the prover has seen to.
-/
namespace Go.Proofs.YtaalnjfmcjdimaaGreat.E
open Go
set_option linter.unusedVariables false
set_option linter.unusedSimpArgs false
set_option maxRecDepth 100000
structure Good (p : VPrg) (q : List Int) (u : Wd) : Prop where
  cw : ∀ w ∈ p.2.2.2.1, WB w.1 w.2
  tw : ∀ l ∈ p.2.2.2.2.1, Tiers l
  sw : ∀ z ∈ p.2.2.1, 1 ≤ z ∧ z ≤ 1000000000000
  qw : ∀ x ∈ q, 0 ≤ x ∧ x ≤ 1099511627776
  nw : q.length = p.2.2.1.length
  uw : WB u.1 u.2
structure Fits (p : VPrg) (c : Int × Int × Int) (l : List Wd) (a : Int) : Prop where
  b : badInstr c = false
  t : 0 ≤ tkn c.1
  r : c.2.1 < arn p c.1
  k : c.1 < 15 → c.2.2 = 0
  h : tkn c.1 ≤ (l.length : Int)
  n : l.length ≤ 2000
  w : ∀ x ∈ l, WB x.1 x.2
  a : 0 ≤ a ∧ a ≤ 100000
theorem work_1 : workV 1 = N43 := rfl
theorem instr_1 (p : VPrg) (q : List Int) (u : Wd) (l : List Wd) (a : Int) (o : Bool) (c1 c2 : Int) : instrV p q u (1, c1, c2) l a o = (l ++ [p.2.2.2.1.getD c1.toNat (0, 0)], a, o) := rfl
theorem work_2 : workV 2 = N44 := rfl
theorem instr_2 (p : VPrg) (q : List Int) (u : Wd) (l : List Wd) (a : Int) (o : Bool) (c1 c2 : Int) : instrV p q u (2, c1, c2) l a o = (l ++ [ofV (q.getD c1.toNat 0)], a, o) := rfl
theorem work_3 : workV 3 = N45 := rfl
theorem instr_3 (p : VPrg) (q : List Int) (u : Wd) (l : List Wd) (a : Int) (o : Bool) (c1 c2 : Int) : instrV p q u (3, c1, c2) l a o = (l ++ [ofV (blkV (q.getD c1.toNat 0) (p.2.2.1.getD c1.toNat 0))], a, o) := rfl
theorem work_4 : workV 4 = N46 := rfl
theorem instr_4 (p : VPrg) (q : List Int) (u : Wd) (l : List Wd) (a : Int) (o : Bool) (c1 c2 : Int) : instrV p q u (4, c1, c2) l a o = (l.take (l.length - 1) ++ [(ck (-wp_ (l.getD (l.length - 1) (0, 0))) o).1], a, (ck (-wp_ (l.getD (l.length - 1) (0, 0))) o).2) := rfl
theorem work_5 : workV 5 = N47 := rfl
theorem instr_5 (p : VPrg) (q : List Int) (u : Wd) (l : List Wd) (a : Int) (o : Bool) (c1 c2 : Int) : instrV p q u (5, c1, c2) l a o = (l.take (l.length - 2) ++ [(ck (wp_ (l.getD (l.length - 2) (0, 0)) + wp_ (l.getD (l.length - 1) (0, 0))) o).1], a, (ck (wp_ (l.getD (l.length - 2) (0, 0)) + wp_ (l.getD (l.length - 1) (0, 0))) o).2) := rfl
theorem work_6 : workV 6 = N48 := rfl
theorem instr_6 (p : VPrg) (q : List Int) (u : Wd) (l : List Wd) (a : Int) (o : Bool) (c1 c2 : Int) : instrV p q u (6, c1, c2) l a o = (l.take (l.length - 2) ++ [(ck (wp_ (l.getD (l.length - 2) (0, 0)) - wp_ (l.getD (l.length - 1) (0, 0))) o).1], a, (ck (wp_ (l.getD (l.length - 2) (0, 0)) - wp_ (l.getD (l.length - 1) (0, 0))) o).2) := rfl
theorem work_7 : workV 7 = N49 := rfl
theorem instr_7 (p : VPrg) (q : List Int) (u : Wd) (l : List Wd) (a : Int) (o : Bool) (c1 c2 : Int) : instrV p q u (7, c1, c2) l a o = (l.take (l.length - 2) ++ [(ck (wp_ (l.getD (l.length - 2) (0, 0)) * wp_ (l.getD (l.length - 1) (0, 0))) o).1], a, (ck (wp_ (l.getD (l.length - 2) (0, 0)) * wp_ (l.getD (l.length - 1) (0, 0))) o).2) := rfl
theorem work_8 : workV 8 = N50 := rfl
theorem instr_8 (p : VPrg) (q : List Int) (u : Wd) (l : List Wd) (a : Int) (o : Bool) (c1 c2 : Int) : instrV p q u (8, c1, c2) l a o = (l.take (l.length - 2) ++ [bif decide (cmpv (wp_ (l.getD (l.length - 1) (0, 0))) (wp_ (l.getD (l.length - 2) (0, 0))) < 0) then l.getD (l.length - 1) (0, 0) else l.getD (l.length - 2) (0, 0)], a, o) := rfl
theorem work_9 : workV 9 = N51 := rfl
theorem instr_9 (p : VPrg) (q : List Int) (u : Wd) (l : List Wd) (a : Int) (o : Bool) (c1 c2 : Int) : instrV p q u (9, c1, c2) l a o = (l.take (l.length - 2) ++ [bif decide (cmpv (wp_ (l.getD (l.length - 1) (0, 0))) (wp_ (l.getD (l.length - 2) (0, 0))) > 0) then l.getD (l.length - 1) (0, 0) else l.getD (l.length - 2) (0, 0)], a, o) := rfl
theorem work_10 : workV 10 = N52 := rfl
theorem instr_10 (p : VPrg) (q : List Int) (u : Wd) (l : List Wd) (a : Int) (o : Bool) (c1 c2 : Int) : instrV p q u (10, c1, c2) l a o = (l.take (l.length - 1) ++ [(overV (l.getD (l.length - 1) (0, 0)) (p.2.2.2.1.getD c1.toNat (0, 0)) o).1], a, (overV (l.getD (l.length - 1) (0, 0)) (p.2.2.2.1.getD c1.toNat (0, 0)) o).2) := rfl
theorem work_11 : workV 11 = N53 := rfl
theorem instr_11 (p : VPrg) (q : List Int) (u : Wd) (l : List Wd) (a : Int) (o : Bool) (c1 c2 : Int) : instrV p q u (11, c1, c2) l a o = (l.take (l.length - 1) ++ [uptoV (l.getD (l.length - 1) (0, 0)) (p.2.2.2.1.getD c1.toNat (0, 0))], a, o) := rfl
theorem work_12 : workV 12 = N54 := rfl
theorem instr_12 (p : VPrg) (q : List Int) (u : Wd) (l : List Wd) (a : Int) (o : Bool) (c1 c2 : Int) : instrV p q u (12, c1, c2) l a o = (l.take (l.length - 1) ++ [(gradV (p.2.2.2.2.1.getD c1.toNat []) (l.getD (l.length - 1) (0, 0)) u o).1], a, (gradV (p.2.2.2.2.1.getD c1.toNat []) (l.getD (l.length - 1) (0, 0)) u o).2) := rfl
theorem work_13 : workV 13 = N55 := rfl
theorem instr_13 (p : VPrg) (q : List Int) (u : Wd) (l : List Wd) (a : Int) (o : Bool) (c1 c2 : Int) : instrV p q u (13, c1, c2) l a o = (l.take (l.length - 1) ++ [(volV (p.2.2.2.2.1.getD c1.toNat []) (l.getD (l.length - 1) (0, 0)) u o).1], a, (volV (p.2.2.2.2.1.getD c1.toNat []) (l.getD (l.length - 1) (0, 0)) u o).2) := rfl
theorem work_14 : workV 14 = N56 := rfl
theorem instr_14 (p : VPrg) (q : List Int) (u : Wd) (l : List Wd) (a : Int) (o : Bool) (c1 c2 : Int) : instrV p q u (14, c1, c2) l a o = (l.take (l.length - 1) ++ [(offV (l.getD (l.length - 1) (0, 0)) c1 o).1], a, (offV (l.getD (l.length - 1) (0, 0)) c1 o).2) := rfl
theorem work_15 : workV 15 = N57 := rfl
theorem instr_15 (p : VPrg) (q : List Int) (u : Wd) (l : List Wd) (a : Int) (o : Bool) (c1 c2 : Int) : instrV p q u (15, c1, c2) l a o = (l, a + c2, o) := rfl
theorem split1 {l : List Wd} (h : 1 ≤ l.length) : l.take (l.length - 1) ++ [l.getD (l.length - 1) (0, 0)] = l := by
  have h1 : l.length - 1 < l.length := by omega
  rw [getD_at h1]
  have := List.take_append_getElem (l := l) (h := h1)
  rw [this, show l.length - 1 + 1 = l.length by omega, List.take_length]
theorem split2 {l : List Wd} (h : 2 ≤ l.length) : l.take (l.length - 2) ++ [l.getD (l.length - 2) (0, 0), l.getD (l.length - 1) (0, 0)] = l := by
  have h1 : l.length - 1 < l.length := by omega
  have h2 : l.length - 2 < l.length := by omega
  have e1 := split1 (show 1 ≤ l.length by omega)
  have e2 := List.take_append_getElem (l := l) (h := h2)
  rw [show l.length - 2 + 1 = l.length - 1 by omega] at e2
  rw [getD_at h2]
  have e3 : l.take (l.length - 2) ++ [l[l.length - 2], l.getD (l.length - 1) (0, 0)] = (l.take (l.length - 2) ++ [l[l.length - 2]]) ++ [l.getD (l.length - 1) (0, 0)] := by rw [List.append_assoc]; rfl
  rw [e3, e2]
  exact e1
theorem getD_WB {l : List Wd} (h : ∀ x ∈ l, WB x.1 x.2) (k : Nat) : WB (l.getD k (0, 0)).1 (l.getD k (0, 0)).2 := by
  by_cases hk : k < l.length
  · rw [getD_at hk]; exact h _ (List.getElem_mem hk)
  · rw [List.getD_eq_getElem?_getD, List.getElem?_eq_none (by omega)]
    exact WB_zero
theorem Fits.ops {p : VPrg} {c : Int × Int × Int} {l : List Wd} {a : Int} (h : Fits p c l a) : c.1 = 1 ∨ c.1 = 2 ∨ c.1 = 3 ∨ c.1 = 4 ∨ c.1 = 5 ∨ c.1 = 6 ∨ c.1 = 7 ∨ c.1 = 8 ∨ c.1 = 9 ∨ c.1 = 10 ∨ c.1 = 11 ∨ c.1 = 12 ∨ c.1 = 13 ∨ c.1 = 14 ∨ c.1 = 15 ∨ (16 ≤ c.1 ∧ c.1 ≤ 21) := by
  have := h.t
  unfold tkn at this
  split at this
  · omega
  split at this
  · omega
  split at this
  · omega
  · omega
section
variable {p : VPrg} {q : List Int} {u : Wd} {l : List Wd} {a s : Int} {o : Bool} {c : Int × Int × Int}
theorem vWork (g : Good p q u) (f : Fits p c l a) : workV c.1 (mc p q u l a s o, c, ()) = some (mc p q u (instrV p q u c l a o).1 (instrV p q u c l a o).2.1 s (instrV p q u c l a o).2.2, ()) := by
  have hops := f.ops
  obtain ⟨b0, b1, b2⟩ := badInstr_in f.b
  have hr := f.r
  have hh := f.h
  have hn := f.n
  have ha := f.a
  obtain ⟨K, hK⟩ : ∃ K : Nat, c.2.1 = (K : Int) := ⟨c.2.1.toNat, by omega⟩
  have hx := getD_WB f.w (l.length - 1)
  have hy := getD_WB f.w (l.length - 2)
  have ht1 : (l.take (l.length - 1)).length ≤ 999999 := by rw [List.length_take]; omega
  have ht2 : (l.take (l.length - 2)).length ≤ 999999 := by rw [List.length_take]; omega
  obtain ⟨op, c1, c2⟩ := c
  simp only at hops b0 b1 b2 hr hh hK
  subst hK
  have eK : Int.toNat (K : Int) = K := Int.toNat_natCast K
  have con : (op = 1 ∨ op = 10 ∨ op = 11 ∨ 16 ≤ op) → ∃ hk : K < p.2.2.2.1.length, p.2.2.2.1.getD K (0, 0) = p.2.2.2.1[K] ∧ WB p.2.2.2.1[K].1 p.2.2.2.1[K].2 := fun ho => by
    have hk : K < p.2.2.2.1.length := by
      unfold arn at hr
      split at hr
      · omega
      split at hr
      · omega
      split at hr
      · omega
      split at hr
      · omega
      · omega
    exact ⟨hk, getD_at hk, g.cw _ (List.getElem_mem hk)⟩
  have siz : (op = 2 ∨ op = 3) → ∃ (hk : K < q.length) (hs : K < p.2.2.1.length), q.getD K 0 = q[K] ∧ p.2.2.1.getD K 0 = p.2.2.1[K] ∧ (0 ≤ q[K] ∧ q[K] ≤ 1099511627776) ∧ (1 ≤ p.2.2.1[K] ∧ p.2.2.1[K] ≤ 1000000000000) := fun ho => by
    have hs : K < p.2.2.1.length := by
      unfold arn at hr
      split at hr <;> omega
    have hk : K < q.length := by rw [g.nw]; exact hs
    exact ⟨hk, hs, getD_at hk, getD_at hs, g.qw _ (List.getElem_mem hk), g.sw _ (List.getElem_mem hs)⟩
  have tir : (op = 12 ∨ op = 13) → ∃ hk : K < p.2.2.2.2.1.length, p.2.2.2.2.1.getD K [] = p.2.2.2.2.1[K] ∧ Tiers p.2.2.2.2.1[K] := fun ho => by
    have hk : K < p.2.2.2.2.1.length := by
      rcases ho with rfl | rfl <;> (have : (K : Int) < (p.2.2.2.2.1.length : Int) := hr; omega)
    exact ⟨hk, getD_at hk, g.tw _ (List.getElem_mem hk)⟩
  have one : tkn op = 1 → l.take (l.length - 1) ++ [l.getD (l.length - 1) (0, 0)] = l := fun h => split1 (by omega)
  have two : tkn op = 2 → l.take (l.length - 2) ++ [l.getD (l.length - 2) (0, 0), l.getD (l.length - 1) (0, 0)] = l := fun h => split2 (by omega)
  rcases hops with rfl | rfl | rfl | rfl | rfl | rfl | rfl | rfl | rfl | rfl | rfl | rfl | rfl | rfl | rfl | hops
  · rw [work_1, instr_1]
    simp only []
    obtain ⟨k1, k2, k3⟩ := con (by omega)
    rw [eK, k2]
    exact vConst p q u l a s o _ K rfl k1 (by omega)
  · rw [work_2, instr_2]
    simp only []
    obtain ⟨k1, k2, k3, k4, k5, k6⟩ := siz (by omega)
    rw [eK, k3]
    exact vLoad p q u l a s o _ K rfl k1 (by omega) (by omega)
  · rw [work_3, instr_3]
    simp only []
    obtain ⟨k1, k2, k3, k4, k5, k6⟩ := siz (by omega)
    rw [eK, k3, k4]
    exact vBlock p q u l a s o _ K rfl k1 k2 k5 k6 (by omega)
  · rw [work_4, instr_4]
    simp only []
    have := vNeg p q u (l.take (l.length - 1)) a s o (l.getD (l.length - 1) (0, 0)) (4, (K : Int), c2) ht1 hx
    rw [one (by decide)] at this
    exact this
  · rw [work_5, instr_5]
    simp only []
    have := vAdd p q u (l.take (l.length - 2)) a s o (l.getD (l.length - 2) (0, 0)) (l.getD (l.length - 1) (0, 0)) (5, (K : Int), c2) ht2 hy hx
    rw [two (by decide)] at this
    exact this
  · rw [work_6, instr_6]
    simp only []
    have := vSub p q u (l.take (l.length - 2)) a s o (l.getD (l.length - 2) (0, 0)) (l.getD (l.length - 1) (0, 0)) (6, (K : Int), c2) ht2 hy hx
    rw [two (by decide)] at this
    exact this
  · rw [work_7, instr_7]
    simp only []
    have := vMul p q u (l.take (l.length - 2)) a s o (l.getD (l.length - 2) (0, 0)) (l.getD (l.length - 1) (0, 0)) (7, (K : Int), c2) ht2 hy hx
    rw [two (by decide)] at this
    exact this
  · rw [work_8, instr_8]
    simp only []
    have := vLeast p q u (l.take (l.length - 2)) a s o (l.getD (l.length - 2) (0, 0)) (l.getD (l.length - 1) (0, 0)) (8, (K : Int), c2) ht2 hy hx
    rw [two (by decide)] at this
    exact this
  · rw [work_9, instr_9]
    simp only []
    have := vMost p q u (l.take (l.length - 2)) a s o (l.getD (l.length - 2) (0, 0)) (l.getD (l.length - 1) (0, 0)) (9, (K : Int), c2) ht2 hy hx
    rw [two (by decide)] at this
    exact this
  · rw [work_10, instr_10]
    simp only []
    obtain ⟨k1, k2, k3⟩ := con (by omega)
    have := vOver p q u (l.take (l.length - 1)) a s o (l.getD (l.length - 1) (0, 0)) (10, (K : Int), c2) K rfl k1 k3 ht1 hx
    rw [one (by decide), ← k2] at this
    rw [eK]
    exact this
  · rw [work_11, instr_11]
    simp only []
    obtain ⟨k1, k2, k3⟩ := con (by omega)
    have := vUpto p q u (l.take (l.length - 1)) a s o (l.getD (l.length - 1) (0, 0)) (11, (K : Int), c2) K rfl k1 k3 ht1 hx
    rw [one (by decide), ← k2] at this
    rw [eK]
    exact this
  · rw [work_12, instr_12]
    simp only []
    obtain ⟨k1, k2, k3⟩ := tir (by omega)
    have := vGrad p q u (l.take (l.length - 1)) a s o (l.getD (l.length - 1) (0, 0)) (12, (K : Int), c2) K rfl k1 k3 ht1 hx g.uw
    rw [one (by decide), ← k2] at this
    rw [eK]
    exact this
  · rw [work_13, instr_13]
    simp only []
    obtain ⟨k1, k2, k3⟩ := tir (by omega)
    have := vVol p q u (l.take (l.length - 1)) a s o (l.getD (l.length - 1) (0, 0)) (13, (K : Int), c2) K rfl k1 k3 ht1 hx g.uw
    rw [one (by decide), ← k2] at this
    rw [eK]
    exact this
  · rw [work_14, instr_14]
    simp only []
    have hr' : (K : Int) < 10001 := hr
    have := vOff p q u (l.take (l.length - 1)) a s o (l.getD (l.length - 1) (0, 0)) (14, (K : Int), c2) (by simp only; omega) ht1 hx
    rw [one (by decide)] at this
    exact this
  · rw [work_15, instr_15]
    simp only []
    exact vSkip p q u l a s o (15, (K : Int), c2) ha b2
  · obtain ⟨k1, k2, k3⟩ := con (by omega)
    have htk : tkn op = 1 := by unfold tkn; rw [if_pos (by omega)]
    have := vTest p q u (l.take (l.length - 1)) a s o (l.getD (l.length - 1) (0, 0)) (op, (K : Int), c2) K hops rfl k1 k3 ht1 hx ha b2
    rw [one htk, ← k2] at this
    unfold workV instrV
    simp only []
    rw [if_neg (by omega), if_neg (by omega), if_neg (by omega), if_neg (by omega), if_neg (by omega), if_neg (by omega), if_neg (by omega), if_neg (by omega), if_neg (by omega), if_neg (by omega), if_neg (by omega), if_neg (by omega), if_neg (by omega), if_neg (by omega), if_neg (by omega)]
    rw [if_neg (by omega), if_neg (by omega), if_neg (by omega), if_neg (by omega), if_neg (by omega), if_neg (by omega), if_neg (by omega), if_neg (by omega), if_neg (by omega), if_neg (by omega), if_neg (by omega), if_neg (by omega), if_neg (by omega), if_neg (by omega), if_neg (by omega)]
    rw [eK]
    exact this
end
end Go.Proofs.YtaalnjfmcjdimaaGreat.E
/-
  A run of an accepted program: what the pile holds, where it goes, how long it takes. No condition but those that the prover has seen to.
-/
namespace Go.Proofs.YtaalnjfmcjdimaaGreat.E
open Go
set_option linter.unusedVariables false
set_option linter.unusedSimpArgs false
set_option maxRecDepth 100000
theorem divans_WB (A m : Int) : WB (divans A 10000 m).1.1 (divans A 10000 m).1.2 := by
  unfold divans
  split
  · exact WB_zero
  split
  · exact WB_zero
  split
  · exact WB_zero
  split
  · rename_i h
    split
    · exact WB_in h
    · cases far A 10000 m with
      | false => exact WB_in h
      | true => exact wans_WB _
  · exact WB_zero
theorem overV_WB (x n : Wd) (o : Bool) : WB (overV x n o).1.1 (overV x n o).1.2 := by
  unfold overV
  simp only
  cases decide (cmpv (wp_ (ck (wp_ x - wp_ n) o).1) 0 < 0) with
  | true => exact WB_zero
  | false => exact ck_WB _ _
theorem uptoV_WB {x n : Wd} (hx : WB x.1 x.2) (hn : WB n.1 n.2) : WB (uptoV x n).1 (uptoV x n).2 := by
  unfold uptoV
  cases decide (cmpv (wp_ n) (wp_ x) < 0) with
  | true => exact hn
  | false => exact hx
theorem gradV_WB (l : List Tr) (x u : Wd) (o : Bool) : WB (gradV l x u o).1.1 (gradV l x u o).1.2 := by
  unfold gradV
  split
  · exact WB_zero
  · exact ck_WB _ _
theorem volV_WB (l : List Tr) (x u : Wd) (o : Bool) : WB (volV l x u o).1.1 (volV l x u o).1.2 := by
  unfold volV
  split
  · exact WB_zero
  · exact ck_WB _ _
theorem pick_WB {x y : Wd} (c : Bool) (hx : WB x.1 x.2) (hy : WB y.1 y.2) : WB (bif c then x else y).1 (bif c then x else y).2 := by cases c <;> assumption
theorem ofV_WB {a : Int} (h : -9223372036854775808 ≤ a ∧ a ≤ 9223372036854775807) : WB (ofV a).1 (ofV a).2 := WB_of h
theorem lay_ok {l : List Wd} {z : Wd} {n : Nat} (hw : ∀ x ∈ l, WB x.1 x.2) (hz : WB z.1 z.2) : ∀ x ∈ l.take n ++ [z], WB x.1 x.2 := fun x hx => by
  rcases List.mem_append.1 hx with hx | hx
  · exact hw x (List.mem_of_mem_take hx)
  · rw [List.mem_singleton.1 hx]; exact hz
theorem lay_ok' {l : List Wd} {z : Wd} (hw : ∀ x ∈ l, WB x.1 x.2) (hz : WB z.1 z.2) : ∀ x ∈ l ++ [z], WB x.1 x.2 := fun x hx => by
  rcases List.mem_append.1 hx with hx | hx
  · exact hw x hx
  · rw [List.mem_singleton.1 hx]; exact hz
section
variable {p : VPrg} {q : List Int} {u : Wd}
structure Left (c : Int × Int × Int) (l : List Wd) (a : Int) (r : List Wd × Int × Bool) : Prop where
  n : (r.1.length : Int) = (l.length : Int) - tkn c.1 + lyn c.1
  w : ∀ x ∈ r.1, WB x.1 x.2
  a : (c.1 ≠ 15 ∧ r.2.1 = a) ∨ (15 ≤ c.1 ∧ r.2.1 = a + c.2.2)
theorem vLeft {c : Int × Int × Int} {l : List Wd} {a : Int} {o : Bool} (g : Good p q u) (f : Fits p c l a) : Left c l a (instrV p q u c l a o) := by
  have hops := f.ops
  have hh := f.h
  have hw := f.w
  have hx := getD_WB f.w (l.length - 1)
  have hy := getD_WB f.w (l.length - 2)
  have hr := f.r
  have hb := badInstr_in f.b
  obtain ⟨op, c1, c2⟩ := c
  simp only at hops hh hr hb
  have hC := getD_WB g.cw c1.toNat
  have one : ∀ z : Wd, tkn op = 1 → ((l.take (l.length - 1) ++ [z]).length : Int) = (l.length : Int) - tkn op + 1 := fun z h => by
    rw [List.length_append, List.length_take, List.length_singleton]; omega
  have two : ∀ z : Wd, tkn op = 2 → ((l.take (l.length - 2) ++ [z]).length : Int) = (l.length : Int) - tkn op + 1 := fun z h => by
    rw [List.length_append, List.length_take, List.length_singleton]; omega
  have zro : ∀ z : Wd, tkn op = 0 → ((l ++ [z]).length : Int) = (l.length : Int) - tkn op + 1 := fun z h => by
    rw [List.length_append, List.length_singleton]; omega
  rcases hops with rfl | rfl | rfl | rfl | rfl | rfl | rfl | rfl | rfl | rfl | rfl | rfl | rfl | rfl | rfl | hops
  · rw [instr_1]; exact ⟨zro _ rfl, lay_ok' hw hC, .inl ⟨by simp, rfl⟩⟩
  · rw [instr_2]
    refine ⟨zro _ rfl, lay_ok' hw (ofV_WB ?_), .inl ⟨by simp, rfl⟩⟩
    have : ∀ k, 0 ≤ q.getD k 0 ∧ q.getD k 0 ≤ 1099511627776 := fun k => by
      by_cases hk : k < q.length
      · rw [getD_at hk]; exact g.qw _ (List.getElem_mem hk)
      · rw [List.getD_eq_getElem?_getD, List.getElem?_eq_none (by omega)]; simp
    have := this c1.toNat
    omega
  · rw [instr_3]
    refine ⟨zro _ rfl, lay_ok' hw (ofV_WB ?_), .inl ⟨by simp, rfl⟩⟩
    have hk : c1.toNat < p.2.2.1.length := by
      have : c1 < (p.2.2.1.length : Int) := hr
      omega
    have hq : c1.toNat < q.length := by rw [g.nw]; exact hk
    have h1 := g.qw _ (List.getElem_mem hq)
    have h2 := g.sw _ (List.getElem_mem hk)
    rw [getD_at hk, getD_at hq]
    unfold blkV
    have h3 : 0 ≤ q[c1.toNat] / p.2.2.1[c1.toNat] := Int.ediv_nonneg h1.1 (by omega)
    have h4 : q[c1.toNat] / p.2.2.1[c1.toNat] ≤ q[c1.toNat] := Int.ediv_le_self _ h1.1
    split <;> omega
  · rw [instr_4]; exact ⟨one _ rfl, lay_ok hw (ck_WB _ _), .inl ⟨by simp, rfl⟩⟩
  · rw [instr_5]; exact ⟨two _ rfl, lay_ok hw (ck_WB _ _), .inl ⟨by simp, rfl⟩⟩
  · rw [instr_6]; exact ⟨two _ rfl, lay_ok hw (ck_WB _ _), .inl ⟨by simp, rfl⟩⟩
  · rw [instr_7]; exact ⟨two _ rfl, lay_ok hw (ck_WB _ _), .inl ⟨by simp, rfl⟩⟩
  · rw [instr_8]; exact ⟨two _ rfl, lay_ok hw (pick_WB _ hx hy), .inl ⟨by simp, rfl⟩⟩
  · rw [instr_9]; exact ⟨two _ rfl, lay_ok hw (pick_WB _ hx hy), .inl ⟨by simp, rfl⟩⟩
  · rw [instr_10]; exact ⟨one _ rfl, lay_ok hw (overV_WB _ _ _), .inl ⟨by simp, rfl⟩⟩
  · rw [instr_11]; exact ⟨one _ rfl, lay_ok hw (uptoV_WB hx hC), .inl ⟨by simp, rfl⟩⟩
  · rw [instr_12]; exact ⟨one _ rfl, lay_ok hw (gradV_WB _ _ _ _), .inl ⟨by simp, rfl⟩⟩
  · rw [instr_13]; exact ⟨one _ rfl, lay_ok hw (volV_WB _ _ _ _), .inl ⟨by simp, rfl⟩⟩
  · rw [instr_14]; exact ⟨one _ rfl, lay_ok hw (divans_WB _ _), .inl ⟨by simp, rfl⟩⟩
  · rw [instr_15]; exact ⟨show (l.length : Int) = (l.length : Int) - 0 + 0 by omega, hw, .inr ⟨by simp, rfl⟩⟩
  · have htk : tkn op = 1 := by unfold tkn; rw [if_pos (by omega)]
    have hly : lyn op = 0 := by unfold lyn; rw [if_pos (by omega)]
    have e : instrV p q u (op, c1, c2) l a o = (l.take (l.length - 1), bif holdsV (cmpv (wp_ (l.getD (l.length - 1) (0, 0))) (wp_ (p.2.2.2.1.getD c1.toNat (0, 0)))) (op - 15) then a else a + c2, o) := by
      unfold instrV
      simp only []
      rw [if_neg (by omega), if_neg (by omega), if_neg (by omega), if_neg (by omega), if_neg (by omega), if_neg (by omega), if_neg (by omega), if_neg (by omega), if_neg (by omega), if_neg (by omega), if_neg (by omega), if_neg (by omega), if_neg (by omega), if_neg (by omega), if_neg (by omega)]
    rw [e]
    refine ⟨?_, fun x hx => hw x (List.mem_of_mem_take hx), ?_⟩
    · simp only
      rw [htk, hly, List.length_take]
      omega
    · simp only
      cases holdsV (cmpv (wp_ (l.getD (l.length - 1) (0, 0))) (wp_ (p.2.2.2.1.getD c1.toNat (0, 0)))) (op - 15) with
      | true => exact .inl ⟨by omega, rfl⟩
      | false => exact .inr ⟨by omega, rfl⟩
def runV (p : VPrg) (q : List Int) (u : Wd) : Nat → List Wd → Nat → Nat → Option (List Wd × Nat × Nat)
  | 0, l, i, s => some (l, i, s)
  | n + 1, l, i, s => if i < p.2.2.2.2.2.length then
      (if (instrV p q u (p.2.2.2.2.2.getD i (0, 0, 0)) l ((i + 1 : Nat) : Int) false).2.2 = true then none
        else runV p q u n (instrV p q u (p.2.2.2.2.2.getD i (0, 0, 0)) l ((i + 1 : Nat) : Int) false).1 (instrV p q u (p.2.2.2.2.2.getD i (0, 0, 0)) l ((i + 1 : Nat) : Int) false).2.1.toNat (s + 1))
      else some (l, i, s)
structure Seen (p : VPrg) (pl : Pl) (H S : Int) : Prop where
  R : Rg p pl H p.2.2.2.2.2.length
  f : ∀ k, k < p.2.2.2.2.2.length → Fine p pl H k
  z : (pl.getD 0 (-1, 0)).1 = 0
  e : pl.getD p.2.2.2.2.2.length (-1, 0) = (1, S)
  r : ∀ k, k < p.2.2.2.2.2.length → (p.2.2.2.2.2.getD k (0, 0, 0)).2.1 < arn p (opc p k) ∧ (opc p k < 15 → (p.2.2.2.2.2.getD k (0, 0, 0)).2.2 = 0)
theorem vrun_args : ∀ (m i : Nat) (pl : Pl) (most : Int), (vrun p m i pl most).1 = 0 → ∀ k, i ≤ k → k < i + m → (p.2.2.2.2.2.getD k (0, 0, 0)).2.1 < arn p (opc p k) ∧ (opc p k < 15 → (p.2.2.2.2.2.getD k (0, 0, 0)).2.2 = 0)
  | 0, i, pl, most, h, k, h1, h2 => by omega
  | m + 1, i, pl, most, h, k, h1, h2 => by
    by_cases he : (stp p pl most i).1 = 0
    · rw [vrun_go he] at h
      by_cases hk : k = i
      · subst hk
        obtain ⟨_, _, k3, k4, _⟩ := stp_ok he
        exact ⟨by omega, fun ho => by
          by_cases hz : (p.2.2.2.2.2.getD k (0, 0, 0)).2.2 = 0
          · exact hz
          · exact absurd ⟨ho, hz⟩ k4⟩
      · exact vrun_args m (i + 1) _ _ h k (by omega) (by omega)
    · rw [vrun_stop he] at h
      exact absurd h he
theorem seen_of {S H : Int} (hc : chk p = 0) (h : vshape p = ((S, H), 0, ())) : ∃ pl, Seen p pl H S := by
  obtain ⟨pl, R, f, z, e, v⟩ := accepted hc h
  refine ⟨pl, R, f, by rw [z], e, fun k hk => vrun_args _ 0 _ _ (by rw [v]) k (Nat.zero_le _) (by omega)⟩
structure At (p : VPrg) (pl : Pl) (l : List Wd) (i : Nat) : Prop where
  le : i ≤ p.2.2.2.2.2.length
  h : (pl.getD i (-1, 0)).1 = (l.length : Int)
  w : ∀ x ∈ l, WB x.1 x.2
theorem At.fits {pl : Pl} {H S : Int} {l : List Wd} {i : Nat} (hs : Seen p pl H S) (h : At p pl l i) (hi : i < p.2.2.2.2.2.length) : Fits p (p.2.2.2.2.2.getD i (0, 0, 0)) l ((i + 1 : Nat) : Int) := by
  have f := hs.f i hi
  have hn := hs.R.n
  have hp := hs.R.len
  have hh := (hs.R.hs pl[i] (List.getElem_mem (by omega))).1
  have e := h.h
  rw [getD_at (show i < pl.length by omega)] at e
  refine ⟨?_, f.t, (hs.r i hi).1, (hs.r i hi).2, by have := f.tk; rw [h.h] at this; exact this, by omega, h.w, by omega⟩
  rw [getD_at hi]
  exact hs.R.ins _ (List.getElem_mem hi)
theorem At.next {pl : Pl} {H S : Int} {l : List Wd} {i : Nat} {o : Bool} (hs : Seen p pl H S) (g : Good p q u) (h : At p pl l i) (hi : i < p.2.2.2.2.2.length) :
    At p pl (instrV p q u (p.2.2.2.2.2.getD i (0, 0, 0)) l ((i + 1 : Nat) : Int) o).1 (instrV p q u (p.2.2.2.2.2.getD i (0, 0, 0)) l ((i + 1 : Nat) : Int) o).2.1.toNat ∧
    ((instrV p q u (p.2.2.2.2.2.getD i (0, 0, 0)) l ((i + 1 : Nat) : Int) o).2.1.toNat : Int) = (instrV p q u (p.2.2.2.2.2.getD i (0, 0, 0)) l ((i + 1 : Nat) : Int) o).2.1 ∧ i + 1 ≤ (instrV p q u (p.2.2.2.2.2.getD i (0, 0, 0)) l ((i + 1 : Nat) : Int) o).2.1.toNat ∧
    (pl.getD i (-1, 0)).2 + 1 ≤ (pl.getD (instrV p q u (p.2.2.2.2.2.getD i (0, 0, 0)) l ((i + 1 : Nat) : Int) o).2.1.toNat (-1, 0)).2 := by
  have ff := h.fits hs hi
  have L := vLeft (o := o) g ff
  have hsk := badInstr_in ff.b
  have f := hs.f i hi
  have hlen := hs.R.len
  generalize instrV p q u (p.2.2.2.2.2.getD i (0, 0, 0)) l ((i + 1 : Nat) : Int) o = r at *
  have hG : Goes p i r.2.1.toNat ∧ ((r.2.1.toNat : Nat) : Int) = r.2.1 ∧ i + 1 ≤ r.2.1.toNat := by
    unfold Goes skc opc
    rcases L.a with ⟨h1, h2⟩ | ⟨h1, h2⟩
    · exact ⟨.inl ⟨h1, by omega⟩, by omega, by omega⟩
    · exact ⟨.inr ⟨h1, by omega⟩, by omega, by omega⟩
  obtain ⟨t1, t2, t3⟩ := f.to _ hG.1
  refine ⟨⟨by omega, ?_, L.w⟩, hG.2.1, hG.2.2, t3⟩
  rw [t2, L.n, ← h.h]
  rfl
theorem At.fin {pl : Pl} {H S : Int} {l : List Wd} {i : Nat} (hs : Seen p pl H S) (hA : At p pl l i) (e : i = p.2.2.2.2.2.length) : ∃ x, l = [x] ∧ WB x.1 x.2 := by
  have h := hA.h
  rw [e, hs.e] at h
  match l, h, hA with
  | [x], _, hA => exact ⟨x, rfl, hA.w x (by simp)⟩
  | [], h, _ => exact absurd h (by simp)
  | x :: y :: z, h, _ => exact absurd h (by simp only [List.length_cons]; omega)
theorem run_end {pl : Pl} {H S : Int} (hs : Seen p pl H S) (g : Good p q u) : ∀ (n : Nat) (l : List Wd) (i s : Nat), p.2.2.2.2.2.length ≤ i + n → At p pl l i → ∀ l' i' s', runV p q u n l i s = some (l', i', s') →
    i' = p.2.2.2.2.2.length ∧ (∃ x, l' = [x] ∧ WB x.1 x.2) ∧ (s' : Int) - s ≤ S - (pl.getD i (-1, 0)).2 ∧ (i < p.2.2.2.2.2.length → s + 1 ≤ s') ∧ s ≤ s'
  | 0, l, i, s, hi, hA, l', i', s', hr => by
    have e : i = p.2.2.2.2.2.length := by have := hA.le; omega
    injection hr with hr
    simp only [Prod.mk.injEq] at hr
    obtain ⟨rfl, rfl, rfl⟩ := hr
    refine ⟨e, hA.fin hs e, ?_, fun h => by omega, Nat.le_refl _⟩
    rw [e, hs.e]
    simp
  | n + 1, l, i, s, hi, hA, l', i', s', hr => by
    unfold runV at hr
    by_cases hlt : i < p.2.2.2.2.2.length
    · rw [if_pos hlt] at hr
      split at hr
      · cases hr
      · obtain ⟨a1, a2, a3, a4⟩ := hA.next (o := false) hs g hlt
        obtain ⟨b1, b2, b3, b4, b5⟩ := run_end hs g n _ _ (s + 1) (by omega) a1 l' i' s' hr
        exact ⟨b1, b2, by omega, fun _ => by omega, by omega⟩
    · rw [if_neg hlt] at hr
      have e : i = p.2.2.2.2.2.length := by have := hA.le; omega
      injection hr with hr
      simp only [Prod.mk.injEq] at hr
      obtain ⟨rfl, rfl, rfl⟩ := hr
      refine ⟨e, hA.fin hs e, ?_, fun h => by omega, Nat.le_refl _⟩
      rw [e, hs.e]
      simp
theorem vLoop {pl : Pl} {H S : Int} (hs : Seen p pl H S) (g : Good p q u) : ∀ (n : Nat) (l : List Wd) (i s : Nat), p.2.2.2.2.2.length ≤ i + n → s + n ≤ 100000 → At p pl l i →
    itr R11_2 (n + 1) (zp p, mc p q u l (i : Int) (s : Int) false, tbl, ()) = some (match runV p q u n l i s with | none => .inr (0, 0, 10, ()) | some r => .inl (zp p, mc p q u r.1 (r.2.1 : Int) (r.2.2 : Int) false, ()))
  | 0, l, i, s, hi, hn, hA => by
    refine itr_out ?_
    obtain ⟨p0, p1, p2, p3, p4, p5⟩ := p
    obtain ⟨u0, u1⟩ := u
    simp only at hi
    unfold R11_2 Q11_2 mc zp
    simp only []
    rw [bif_f (c := decide ((i : Int) < (p5.length : Int))) (decide_eq_false (by omega))]
    rfl
  | n + 1, l, i, s, hi, hn, hA => by
    unfold runV
    by_cases hlt : i < p.2.2.2.2.2.length
    · rw [if_pos hlt]
      have hsn := hs.R.n
      have ff := hA.fits hs hlt
      have ho : 1 ≤ p.2.2.2.2.2[i].1 ∧ p.2.2.2.2.2[i].1 ≤ 21 := by
        have := ff.ops
        rw [getD_at hlt] at this
        omega
      have e1 := vRound (q := q) (u := u) (l := l) (s := s) hlt (by omega) ho
      have e2 := vWork (s := (s : Int)) (o := false) g ff
      rw [getD_at hlt] at e2 ff ⊢
      rw [e2, Option.bind_some] at e1
      obtain ⟨a1, a2, a3, a4⟩ := hA.next (o := false) hs g hlt
      rw [getD_at hlt] at a1 a2 a3
      have ih := vLoop hs g n _ _ (s + 1) (show p.2.2.2.2.2.length ≤ (instrV p q u p.2.2.2.2.2[i] l ((i + 1 : Nat) : Int) false).2.1.toNat + n by omega) (by omega) a1
      cases ho : (instrV p q u p.2.2.2.2.2[i] l ((i + 1 : Nat) : Int) false).2.2 with
      | true =>
        rw [if_pos rfl]
        refine itr_out ?_
        rw [e1]
        unfold nextV mc
        simp only []
        rw [ho]
        rfl
      | false =>
        rw [if_neg (by decide), ← ih]
        refine itr_in ?_
        rw [e1]
        unfold nextV mc
        simp only []
        rw [ho, cond_false, a2, wsi (n := (s : Int) + 1) (by omega)]
        rfl
    · rw [if_neg hlt]
      refine itr_out ?_
      obtain ⟨p0, p1, p2, p3, p4, p5⟩ := p
      obtain ⟨u0, u1⟩ := u
      simp only at hlt
      unfold R11_2 Q11_2 mc zp
      simp only []
      rw [bif_f (c := decide ((i : Int) < (p5.length : Int))) (decide_eq_false (by omega))]
end
end Go.Proofs.YtaalnjfmcjdimaaGreat.E
/-
  What a decoded program's numbers are. No condition but the sizes that any machine's memory has.
-/
namespace Go.Proofs.YtaalnjfmcjdimaaGreat.E
open Go
set_option linter.unusedVariables false
set_option linter.unusedSimpArgs false
set_option maxRecDepth 100000
theorem gives_wide2 : ∀ l a r, Bs l → pWide l = some (a, r) → WB a.1 a.2 := by
  intro l a r hb hr
  obtain ⟨x, l1, h1, hr⟩ := bind_some hr
  obtain ⟨y, l2, h2, hr⟩ := bind_some hr
  obtain ⟨rfl, rfl⟩ := ret_some hr
  obtain ⟨e1, b1, n0, n1⟩ := writes_pnum 8 l x l1 hb h1
  unfold WB sw64
  simp only
  rw [ws]
  omega
theorem gives_prg2 {l : List Int} {p : Prg} {r : List Int} (hb : Bs l) (hr : pPrg l = some (p, r)) : ∀ w ∈ p.2.2.2.1, WB w.1 w.2 := by
  obtain ⟨mode, l1, h1, hr⟩ := bind_some hr
  obtain ⟨scale, l2, h2, hr⟩ := bind_some hr
  obtain ⟨sizes, l3, h3, hr⟩ := bind_some hr
  obtain ⟨consts, l4, h4, hr⟩ := bind_some hr
  obtain ⟨scales, l5, h5, hr⟩ := bind_some hr
  obtain ⟨code, l6, h6, hr⟩ := bind_some hr
  obtain ⟨rfl, rfl⟩ := ret_some hr
  obtain ⟨e1, b1, n0, n1⟩ := writes_pnum 1 l mode l1 hb h1
  obtain ⟨e2, b2, m0, m1⟩ := writes_pnum 1 l1 scale l2 b1 h2
  have b3 := b2.tail (writes_many writes_size 1 l2 sizes l3 b2 h3)
  obtain ⟨n, k1, g1, h4⟩ := bind_some h4
  obtain ⟨_, b4, _, _⟩ := writes_pnum 2 l3 n k1 b3 g1
  exact gives_rep writes_wide gives_wide2 n.toNat k1 consts l4 b4 h4
theorem decans_WB {b : List Int} (hb : Bs b) {p : Prg} (h : decans b = (p, 0, ())) : chk p = 0 ∧ ∀ w ∈ p.2.2.2.1, WB w.1 w.2 := by
  unfold decans at h
  cases hm : magic b with
  | false => rw [hm] at h; simp at h
  | true =>
    rw [hm] at h
    simp only [cond_true] at h
    split at h
    · rename_i p' hp
      by_cases hc : chk p' = 0
      · rw [hc] at h
        simp only [bne_self_eq_false, cond_false, Prod.mk.injEq, and_true] at h
        subst h
        exact ⟨hc, gives_prg2 (hb.drop 4) hp⟩
      · rw [bif_t (show (chk p' != 0) = true from by simpa using hc)] at h
        simp at h
    · simp at h
theorem tiersOk_Tiers {l : List (Int × Int)} (h : tiersOk l = true) : Tiers l ∧ ∀ j, j < l.length → (0 ≤ from_ l j ∧ from_ l j ≤ 1000000000000) ∧ (-1000000000000 ≤ rate_ l j ∧ rate_ l j ≤ 1000000000000) ∧ (0 < j → from_ l (j - 1) < from_ l j) := by
  have hn := tiersOk_len h
  unfold tiersOk at h
  cases h1 : decide ((l.length : Int) < 1) with
  | true => rw [h1] at h; cases h
  | false =>
    rw [h1] at h
    cases h2 : decide ((l.length : Int) > 16) with
    | true => rw [h2] at h; cases h
    | false =>
      rw [h2] at h
      simp only [cond_false] at h
      cases h3 : ((l.getD 0 (0, 0)).1 != 0) with
      | true => rw [h3] at h; cases h
      | false =>
        rw [h3] at h
        simp only [cond_false, Bool.not_eq_true'] at h
        rw [List.any_eq_false] at h
        have z0 : from_ l 0 = 0 := by unfold from_; simpa using h3
        have all : ∀ j, j < l.length → (0 ≤ from_ l j ∧ from_ l j ≤ 1000000000000) ∧ (-1000000000000 ≤ rate_ l j ∧ rate_ l j ≤ 1000000000000) ∧ (0 < j → from_ l (j - 1) < from_ l j) := by
          intro j
          induction j with
          | zero =>
            intro hj
            have := h 0 (by rw [List.mem_range'_1]; omega)
            unfold badTier at this
            simp only [Bool.not_eq_true, Bool.or_eq_false_iff, decide_eq_false_iff_not] at this
            unfold from_ rate_ at *
            omega
          | succ j ih =>
            intro hj
            have ih := ih (by omega)
            have := h (j + 1) (by rw [List.mem_range'_1]; omega)
            unfold badTier at this
            simp only [Bool.not_eq_true, Bool.or_eq_false_iff, Bool.and_eq_false_iff, decide_eq_false_iff_not, Nat.add_sub_cancel] at this
            unfold from_ rate_ at *
            rw [Nat.add_sub_cancel]
            omega
        refine ⟨⟨by omega, fun t ht => ?_⟩, all⟩
        obtain ⟨j, hj, rfl⟩ := List.getElem_of_mem ht
        have := all j hj
        unfold from_ rate_ at this
        rw [getD_at hj] at this
        omega
theorem chk_nums {p : Prg} (h : chk p = 0) : (∀ s ∈ p.2.2.1, 1 ≤ s ∧ s ≤ 1000000000000) ∧ (∀ l ∈ p.2.2.2.2.1, tiersOk l = true) ∧ 1 ≤ p.2.2.1.length := by
  unfold chk at h
  obtain ⟨_, h⟩ := bif_zero (by decide) h
  obtain ⟨_, h⟩ := bif_zero (by decide) h
  obtain ⟨_, h⟩ := bif_zero (by decide) h
  obtain ⟨_, h⟩ := bif_zero (by decide) h
  obtain ⟨k0, h⟩ := bif_zero (by decide) h
  obtain ⟨_, h⟩ := bif_zero (by decide) h
  obtain ⟨k1, h⟩ := bif_zero (by decide) h
  obtain ⟨_, h⟩ := bif_zero (by decide) h
  obtain ⟨_, h⟩ := bif_zero (by decide) h
  obtain ⟨_, h⟩ := bif_zero (by decide) h
  obtain ⟨k2, h⟩ := bif_zero (by decide) h
  rw [List.any_eq_false] at k1 k2
  have k0 := of_decide_eq_false k0
  refine ⟨fun s hs => ?_, fun l hl => ?_, by omega⟩
  · obtain ⟨j, hj, rfl⟩ := List.getElem_of_mem hs
    have := k1 j (by rw [List.mem_range'_1]; omega)
    rw [getD_at hj] at this
    unfold badSize at this
    simp only [Bool.not_eq_true, Bool.or_eq_false_iff, decide_eq_false_iff_not] at this
    omega
  · obtain ⟨j, hj, rfl⟩ := List.getElem_of_mem hl
    have := k2 j (by rw [List.mem_range'_1]; omega)
    rw [getD_at hj] at this
    simpa using this
/-! ### powers, and numbers of 64 bits -/
def unitV (k : Int) : Wd := ofV (10000 ^ k.toNat)
def intans (v : Int) : Int × Bool × Unit := if -9223372036854775808 ≤ v ∧ v ≤ 9223372036854775807 then (v, true, ()) else (0, false, ())
theorem vPow0 : N21 (0, ()) = some (unitV 0, 0, ()) := by kernel_rfl
theorem vPow1 : N21 (1, ()) = some (unitV 1, 0, ()) := by kernel_rfl
theorem vPow2 : N21 (2, ()) = some (unitV 2, 0, ()) := by kernel_rfl
theorem vPow3 : N21 (3, ()) = some (unitV 3, 0, ()) := by kernel_rfl
theorem vPow4 : N21 (4, ()) = some (unitV 4, 0, ()) := by kernel_rfl
theorem vPow5 : N21 (5, ()) = some (unitV 5, 0, ()) := by kernel_rfl
theorem vPow6 : N21 (6, ()) = some (unitV 6, 0, ()) := by kernel_rfl
theorem vPower {k : Int} (h : 0 ≤ k ∧ k ≤ 6) : N21 (k, ()) = some (unitV k, 0, ()) := by
  have : k = 0 ∨ k = 1 ∨ k = 2 ∨ k = 3 ∨ k = 4 ∨ k = 5 ∨ k = 6 := by omega
  rcases this with rfl | rfl | rfl | rfl | rfl | rfl | rfl
  · exact vPow0
  · exact vPow1
  · exact vPow2
  · exact vPow3
  · exact vPow4
  · exact vPow5
  · exact vPow6
theorem unitV_ok {k : Int} (h : 0 ≤ k ∧ k ≤ 6) : WB (unitV k).1 (unitV k).2 ∧ wp_ (unitV k) = 10000 ^ k.toNat ∧ 1 ≤ (10000 : Int) ^ k.toNat ∧ (10000 : Int) ^ k.toNat ≤ 1000000000000000000000000 := by
  have h2 : 1 ≤ (10000 : Int) ^ k.toNat ∧ (10000 : Int) ^ k.toNat ≤ 1000000000000000000000000 := by
    have : k = 0 ∨ k = 1 ∨ k = 2 ∨ k = 3 ∨ k = 4 ∨ k = 5 ∨ k = 6 := by omega
    rcases this with rfl | rfl | rfl | rfl | rfl | rfl | rfl <;> decide
  refine ⟨?_, wp_of _, h2⟩
  unfold unitV ofV
  exact WB_in (by omega)
theorem vInt {h l : Int} (b : WB h l) : N24 ((h, l), ()) = some (intans (wv h l)) := by
  have b' := b
  unfold WB at b
  unfold N24 M24 intans wv
  simp only []
  rw [ws]
  have hd : Int.fdiv ((l + 9223372036854775808) % 18446744073709551616 - 9223372036854775808) 9223372036854775808 = ((l + 9223372036854775808) % 18446744073709551616 - 9223372036854775808) / 9223372036854775808 := fdiv_pos (by omega)
  rw [hd, bif_ne]
  split <;> split
  · have : (l + 9223372036854775808) % 18446744073709551616 - 9223372036854775808 = h * 18446744073709551616 + l := by omega
    rw [this]
  · exfalso; omega
  · exfalso; omega
  · rfl
def quotQ (e n : Int) (ok : Bool) : Int × Int := if e ≠ 0 then (0, 102) else if ok = false then (0, 102) else if n < -1000000000000000 then (0, 102) else if n > 1000000000000000 then (0, 102) else (n, 0)
def quotV (x u : Wd) (mode : Int) : Int × Int := quotQ (divans (wp_ x) (wp_ u) mode).2.1 (intans (wp_ (divans (wp_ x) (wp_ u) mode).1)).1 (intans (wp_ (divans (wp_ x) (wp_ u) mode).1)).2.1
theorem quot_eq (e n s : Int) (ok : Bool) : (bif e != 0 then (some ((0 : Int), s, (102 : Int), ()) : Option (Int × Int × Int × Unit)) else bif !ok then some (0, s, 102, ()) else bif decide (n < -1000000000000000) then some (0, s, 102, ()) else bif decide (n > 1000000000000000) then some (0, s, 102, ()) else some (n, s, 0, ())) = some ((quotQ e n ok).1, s, (quotQ e n ok).2, ()) := by
  unfold quotQ
  rw [bif_ne]
  by_cases he : e = 0
  · rw [if_pos he, if_neg (show ¬ e ≠ 0 by omega)]
    cases ok with
    | false => rfl
    | true =>
      rw [if_neg (show ¬ (true : Bool) = false by decide), bif_p, bif_p, Bool.not_true, cond_false]
      by_cases h1 : n < -1000000000000000
      · rw [if_pos h1, if_pos h1]
      · rw [if_neg h1, if_neg h1]
        by_cases h2 : n > 1000000000000000
        · rw [if_pos h2, if_pos h2]
        · rw [if_neg h2, if_neg h2]
  · rw [if_neg he, if_pos (show e ≠ 0 from he)]
def badQty (x : Int) : Bool := decide (x < 0) || decide (x > 1099511627776)
def runans (b q : List Int) : Int × Int × Int × Unit :=
  if (vans b).2.1 ≠ 0 then (0, 0, (vans b).2.1, ())
  else if (q.length : Int) ≠ ((decans b).1.2.2.1.length : Int) then (0, 0, 100, ())
  else bif (List.range' 0 q.length).any (fun j => badQty (q.getD j 0)) then (0, 0, 101, ())
  else match runV (decans b).1 q (unitV (decans b).1.2.1) (decans b).1.2.2.2.2.2.length [] 0 0 with
    | none => (0, 0, 10, ())
    | some r => ((quotV (r.1.getD 0 (0, 0)) (unitV (decans b).1.2.1) (decans b).1.1).1, (r.2.2 : Int), (quotV (r.1.getD 0 (0, 0)) (unitV (decans b).1.2.1) (decans b).1.1).2, ())
end Go.Proofs.YtaalnjfmcjdimaaGreat.E
/-
  What a run answers. No condition but the sizes that any machine's memory has.
-/
namespace Go.Proofs.YtaalnjfmcjdimaaGreat.E
open Go
set_option linter.unusedVariables false
set_option linter.unusedSimpArgs false
set_option maxRecDepth 100000
structure Runs (b : List Int) (p : Prg) (S H : Int) (pl : Pl) : Prop where
  d : decans b = (p, 0, ())
  c : chk p = 0
  v : vans b = ((S, H), 0, ())
  s : Seen p pl H S
  w : ∀ w ∈ p.2.2.2.1, WB w.1 w.2
theorem runs_of {b : List Int} (hb : Bs b) (h : (vans b).2.1 = 0) : ∃ p S H pl, Runs b p S H pl := by
  have h0 : (decans b).2.1 = 0 := by
    unfold vans at h
    by_cases hd : (decans b).2.1 = 0
    · exact hd
    · rw [if_pos hd] at h
      exact absurd h hd
  obtain ⟨p, e, he, _⟩ := decans_two hb
  rw [he] at h0
  simp only at h0
  subst h0
  obtain ⟨hc, hw⟩ := decans_WB hb he
  have hv : vans b = vshape p := by
    unfold vans
    rw [he, if_neg (by simp)]
  rw [hv] at h
  generalize hs : vshape p = V at *
  obtain ⟨⟨S, H⟩, e2, ⟨⟩⟩ := V
  simp only at h
  subst h
  obtain ⟨pl, hp⟩ := seen_of hc hs
  exact ⟨p, S, H, pl, he, hc, hv, hp, hw⟩
theorem Runs.good {b q : List Int} {p : Prg} {S H : Int} {pl : Pl} (h : Runs b p S H pl) (hn : q.length = p.2.2.1.length) (hq : (List.range' 0 q.length).any (fun j => badQty (q.getD j 0)) = false) : Good p q (unitV p.2.1) := by
  obtain ⟨n1, n2, n3⟩ := chk_nums h.c
  refine ⟨h.w, fun l hl => (tiersOk_Tiers (n2 l hl)).1, n1, fun x hx => ?_, hn, (unitV_ok (chk_more h.c).2.1).1⟩
  obtain ⟨j, hj, rfl⟩ := List.getElem_of_mem hx
  rw [List.any_eq_false] at hq
  have := hq j (by rw [List.mem_range'_1]; omega)
  rw [getD_at hj] at this
  unfold badQty at this
  simp only [Bool.not_eq_true, Bool.or_eq_false_iff, decide_eq_false_iff_not] at this
  omega
theorem v_qty {q : List Int} {p : Prg} (hl : q.length ≤ 140737488355328) : itrs R11_0 (q, zp p, q, (q.length : Int), 0, ()) = some (bif (List.range' 0 q.length).any (fun j => badQty (q.getD j 0)) then Sum.inr (0, 0, 101, ()) else Sum.inl (q, zp p, ())) := by
  obtain ⟨p0, p1, p2, p3, p4, p5⟩ := p
  refine itrs_any (fun j => (q, zp (p0, p1, p2, p3, p4, p5), q, (q.length : Int), (j : Int), ())) (fun j => badQty (q.getD j 0)) (Sum.inr (0, 0, 101, ())) (Sum.inl (q, zp (p0, p1, p2, p3, p4, p5), ())) q.length rfl (fun j hj => ?_) ?_ (by omega)
  · have hg := at_get hj
    unfold R11_0 Q11_0 zp
    simp only []
    rw [bif_t (c := decide ((j : Int) < (q.length : Int))) (decide_eq_true (by omega)), hg, getD_at hj]
    simp only [Option.bind_some]
    rw [wsi (n := (j : Int) + 1) (by omega)]
    unfold badQty
    cases decide (q[j] < 0) <;> cases decide (q[j] > 1099511627776) <;> rfl
  · unfold R11_0 Q11_0 zp
    simp only []
    rw [bif_f (c := decide ((q.length : Int) < (q.length : Int))) (decide_eq_false (by omega))]
theorem divans_WB2 (A B m : Int) : WB (divans A B m).1.1 (divans A B m).1.2 := by
  unfold divans
  split
  · exact WB_zero
  split
  · exact WB_zero
  split
  · exact WB_zero
  split
  · rename_i h
    split
    · exact WB_in h
    · cases far A B m with
      | false => exact WB_in h
      | true => exact wans_WB _
  · exact WB_zero
theorem vRun {b q : List Int} (hb : Bl b) (hq : q.length ≤ 140737488355328) : N11 (b, q, ()) = some (runans b q) := by
  have e1 := eVerify hb
  have e2 := eDecode hb
  unfold N11 M11 runans
  simp only []
  rw [e1]
  by_cases hv : (vans b).2.1 = 0
  · rw [if_neg (by simpa using hv)]
    obtain ⟨p, S, H, pl, hr⟩ := runs_of hb.1 hv
    have e3 := v_qty (q := q) (p := p) hq
    have hz : zp p = (p.1, p.2.1, p.2.2.1, p.2.2.2.1, p.2.2.2.2.1, p.2.2.2.2.2, ()) := rfl
    rw [hr.d] at e2
    rw [hr.v, hr.d]
    simp only [Option.bind_some]
    rw [bif_f (show ((0 : Int) != 0) = false from rfl), e2]
    simp only [Option.bind_some]
    rw [bif_ne]
    by_cases hn : (q.length : Int) = (p.2.2.1.length : Int)
    · rw [if_pos hn, if_neg (by simpa using hn)]
      rw [← hz, e3]
      cases hbad : (List.range' 0 q.length).any (fun j => badQty (q.getD j 0)) with
      | true => rfl
      | false =>
        simp only [cond_false, Option.bind_some]
        have g := hr.good (show q.length = p.2.2.1.length by omega) hbad
        have hm := chk_more hr.c
        have e4 := vPower hm.2.1
        rw [show (zp p).2.1 = p.2.1 from rfl, e4]
        simp only [Option.bind_some]
        rw [vTable]
        simp only [Option.bind_some]
        have hA : At p pl [] 0 := ⟨Nat.zero_le _, by rw [hr.s.z]; rfl, fun x hx => by cases hx⟩
        have hsn := hr.s.R.n
        have e5 := itrs_eq (vLoop hr.s g p.2.2.2.2.2.length [] 0 0 (by omega) (by omega) hA) rfl (by omega)
        rw [show ((0 : Nat) : Int) = 0 from rfl] at e5
        -- what the end comes to
        have fin : ∀ r, runV p q (unitV p.2.1) p.2.2.2.2.2.length [] 0 0 = some r → ∃ x : Wd, r.1 = [x] ∧ N23 (x, unitV p.2.1, p.1, ()) = some (divans (wp_ x) (wp_ (unitV p.2.1)) p.1) ∧ N24 ((divans (wp_ x) (wp_ (unitV p.2.1)) p.1).1, ()) = some (intans (wp_ (divans (wp_ x) (wp_ (unitV p.2.1)) p.1).1)) := fun r hrun => by
          obtain ⟨r1, ⟨x, hx1, hx⟩, _⟩ := run_end hr.s g _ _ _ _ (by omega) hA r.1 r.2.1 r.2.2 hrun
          exact ⟨x, hx1, wDiv hx g.uw, vInt (divans_WB2 _ _ _)⟩
        generalize hR : runV p q (unitV p.2.1) p.2.2.2.2.2.length [] 0 0 = R at *
        generalize unitV p.2.1 = u at *
        obtain ⟨u0, u1⟩ := u
        obtain ⟨p0, p1, p2, p3, p4, p5⟩ := p
        unfold zp mc at *
        simp only [] at e5 fin ⊢
        cases R with
        | none =>
          rw [e5]
          rfl
        | some r =>
          rw [e5]
          obtain ⟨x, hx, f1, f2⟩ := fin r rfl
          obtain ⟨l', i', s'⟩ := r
          simp only at hx
          subst hx
          have e9 := quot_eq (divans (wp_ x) (wp_ (u0, u1)) p0).2.1 (intans (wp_ (divans (wp_ x) (wp_ (u0, u1)) p0).1)).1 (s' : Int) (intans (wp_ (divans (wp_ x) (wp_ (u0, u1)) p0).1)).2.1
          unfold quotV
          have hgx : ([x] : List Wd).getD 0 (0, 0) = x := rfl
          simp only [hgx]
          rw [← e9]
          generalize hI : intans (wp_ (divans (wp_ x) (wp_ (u0, u1)) p0).1) = I at *
          generalize divans (wp_ x) (wp_ (u0, u1)) p0 = D at *
          obtain ⟨⟨D0, D1⟩, D2, ⟨⟩⟩ := D
          obtain ⟨I0, I1, ⟨⟩⟩ := I
          obtain ⟨x0, x1⟩ := x
          simp only [Option.bind_some, List.getElem?_cons_zero, List.length_singleton]
          rw [bif_t (c := true && decide ((0 : Int) < ((1 : Nat) : Int))) (by decide)]
          simp only [Option.bind_some]
          rw [f1]
          simp only [Option.bind_some]
          rw [f2]
          rfl
    · rw [if_neg hn, if_pos (by simpa using hn)]
  · rw [if_pos hv]
    generalize vans b = V at *
    obtain ⟨⟨V0, V1⟩, V2, ⟨⟩⟩ := V
    simp only [Option.bind_some] at hv ⊢
    rw [bif_ne, if_neg hv]
end Go.Proofs.YtaalnjfmcjdimaaGreat.E
/-
  What the arguments' reader knows of programs and bytes. No condition.
-/
namespace Go.Proofs.YtaalnjfmcjdimaaGreat.E
open Go
set_option linter.unusedVariables false
set_option maxRecDepth 100000
theorem by_i64 : Program.bytesOf Tryz.prog 2 = 8 := by kernel_rfl
theorem by_wide : Program.bytesOf Tryz.prog 53 = 16 := by kernel_rfl
theorem by_tiers : Program.bytesOf Tryz.prog 62 = 24 := by kernel_rfl
theorem by_tier : Program.bytesOf Tryz.prog 64 = 16 := by kernel_rfl
theorem by_instr : Program.bytesOf Tryz.prog 44 = 24 := by kernel_rfl
theorem prg_wf {p : Prg} (h1 : List.length p.2.2.1 * Program.bytesOf Tryz.prog 2 ≤ 140737488351232 ∧ ∀ x ∈ p.2.2.1, (-9223372036854775808 ≤ x ∧ x ≤ 9223372036854775807))
    (h2 : List.length p.2.2.2.1 * Program.bytesOf Tryz.prog 53 ≤ 140737488351232 ∧ ∀ x ∈ p.2.2.2.1, (-9223372036854775808 ≤ x.1 ∧ x.1 ≤ 9223372036854775807) ∧ (0 ≤ x.2 ∧ x.2 ≤ 18446744073709551615))
    (h3 : List.length p.2.2.2.2.1 * Program.bytesOf Tryz.prog 62 ≤ 140737488351232 ∧ ∀ x ∈ p.2.2.2.2.1, (List.length x * Program.bytesOf Tryz.prog 64 ≤ 140737488351232 ∧ ∀ x' ∈ x, (-9223372036854775808 ≤ x'.1 ∧ x'.1 ≤ 9223372036854775807) ∧ (-9223372036854775808 ≤ x'.2 ∧ x'.2 ≤ 9223372036854775807)))
    (h4 : List.length p.2.2.2.2.2 * Program.bytesOf Tryz.prog 44 ≤ 140737488351232) : Small p ∧ Wf p := by
  rw [by_i64] at h1
  rw [by_wide] at h2
  rw [by_tiers, by_tier] at h3
  rw [by_instr] at h4
  refine ⟨⟨by omega, by omega, by omega, by omega, fun l hl => ?_⟩, ⟨h1.2, h2.2, fun l hl => (h3.2 l hl).2⟩⟩
  have := (h3.2 l hl).1
  omega
theorem bl_enc {p : Prg} (h : chk p = 0) : Bl (encB p) := ⟨encB_bytes p, by have := encB_len (chk_fit h); omega⟩
end Go.Proofs.YtaalnjfmcjdimaaGreat.E
/-
  Runs end within the prover's steps; what their answers may be. No condition but the sizes that any machine's memory has.
-/
namespace Go.Proofs.YtaalnjfmcjdimaaGreat.E
open Go
set_option linter.unusedVariables false
set_option linter.unusedSimpArgs false
set_option maxRecDepth 100000
theorem awake_yes : N5 () = some (true, ()) := by kernel_rfl
theorem quotV_in (x u : Wd) (m : Int) : ((quotV x u m).2 = 0 ∧ -1000000000000000 ≤ (quotV x u m).1 ∧ (quotV x u m).1 ≤ 1000000000000000) ∨ ((quotV x u m).2 = 102 ∧ (quotV x u m).1 = 0) := by
  unfold quotV quotQ
  split
  · exact .inr ⟨rfl, rfl⟩
  split
  · exact .inr ⟨rfl, rfl⟩
  split
  · exact .inr ⟨rfl, rfl⟩
  split
  · exact .inr ⟨rfl, rfl⟩
  · exact .inl ⟨rfl, by omega, by omega⟩
theorem run_ok {b q : List Int} {p : Prg} {S H : Int} {pl : Pl} (hr : Runs b p S H pl) (hn : q.length = p.2.2.1.length) (hq : (List.range' 0 q.length).any (fun j => badQty (q.getD j 0)) = false) {r : List Wd × Nat × Nat} (hrun : runV p q (unitV p.2.1) p.2.2.2.2.2.length [] 0 0 = some r) :
    (∃ x, r.1 = [x] ∧ WB x.1 x.2) ∧ 1 ≤ r.2.2 ∧ (r.2.2 : Int) ≤ S := by
  have g := hr.good hn hq
  have hA : At p pl [] 0 := ⟨Nat.zero_le _, by rw [hr.s.z]; rfl, fun x hx => by cases hx⟩
  obtain ⟨r1, r2, r3, r4, _⟩ := run_end hr.s g _ _ _ _ (by omega) hA r.1 r.2.1 r.2.2 hrun
  have hl : 0 < p.2.2.2.2.2.length := by
    rcases Nat.eq_zero_or_pos p.2.2.2.2.2.length with h | h
    · have e := hr.s.e
      have z := hr.s.z
      rw [h] at e
      rw [e] at z
      cases z
    · exact h
  have hpl : 0 < pl.length := by have := hr.s.R.len; omega
  have hp := (hr.s.R.hs pl[0] (List.getElem_mem hpl)).2
  rw [getD_at hpl] at r3
  have := r4 hl
  exact ⟨r2, by omega, by omega⟩
theorem ends {b q : List Int} (hb : Bs b) : ((vans b).2.1 ≠ 0 ∧ runans b q = (0, 0, (vans b).2.1, ())) ∨ ((vans b).2.1 = 0 ∧
    ((((runans b q).2.2.1 = 100 ∨ (runans b q).2.2.1 = 101 ∨ (runans b q).2.2.1 = 10) ∧ (runans b q).1 = 0 ∧ (runans b q).2.1 = 0) ∨
      (((runans b q).2.2.1 = 0 ∨ ((runans b q).2.2.1 = 102 ∧ (runans b q).1 = 0)) ∧ 1 ≤ (runans b q).2.1 ∧ (runans b q).2.1 ≤ (vans b).1.1 ∧ -1000000000000000 ≤ (runans b q).1 ∧ (runans b q).1 ≤ 1000000000000000))) := by
  by_cases hv : (vans b).2.1 = 0
  · refine .inr ⟨hv, ?_⟩
    obtain ⟨p, S, H, pl, hr⟩ := runs_of hb hv
    unfold runans
    rw [if_neg (by simpa using hv), hr.d, hr.v]
    by_cases hn : (q.length : Int) = (p.2.2.1.length : Int)
    · rw [if_neg (by simpa using hn)]
      cases hq : (List.range' 0 q.length).any (fun j => badQty (q.getD j 0)) with
      | true => exact .inl ⟨.inr (.inl rfl), rfl, rfl⟩
      | false =>
        simp only [cond_false]
        cases hrun : runV p q (unitV p.2.1) p.2.2.2.2.2.length [] 0 0 with
        | none => exact .inl ⟨.inr (.inr rfl), rfl, rfl⟩
        | some r =>
          obtain ⟨_, k1, k2⟩ := run_ok hr (by omega) hq hrun
          refine .inr ?_
          simp only
          rcases quotV_in (r.1.getD 0 (0, 0)) (unitV p.2.1) p.1 with ⟨h1, h2, h3⟩ | ⟨h1, h2⟩
          · exact ⟨.inl h1, by omega, k2, h2, h3⟩
          · exact ⟨.inr ⟨h1, h2⟩, by omega, k2, by omega, by omega⟩
    · rw [if_pos (by simpa using hn)]
      exact .inl ⟨.inl rfl, rfl, rfl⟩
  · refine .inl ⟨hv, ?_⟩
    unfold runans
    rw [if_pos hv]
theorem vRunN {b q : List Int} (hb : Bl b) (hq : q.length ≤ 140737488355328) : N6 (b, q, ()) = some ((runans b q).1, (runans b q).2.2.1, ()) := by
  unfold N6 M6
  simp only []
  rw [vRun hb hq]
  rfl
theorem vStepsN {b q : List Int} (hb : Bl b) (hq : q.length ≤ 140737488355328) : N7 (b, q, ()) = some ((runans b q).2.1, (runans b q).2.2.1, ()) := by
  unfold N7 M7
  simp only []
  rw [vRun hb hq]
  rfl
end Go.Proofs.YtaalnjfmcjdimaaGreat.E
/-
  The reference's long numbers of twelve digits of 16 bits, told as numbers: what its sums, opposites, magnitudes, joins answer. No condition beyond the words' own bounds.
-/
namespace Go.Proofs.YtaalnjfmcjdimaaGreat.E
open Go
set_option linter.unusedVariables false
set_option maxRecDepth 100000
def dv : List Int → Int
  | [] => 0
  | x :: r => x + 65536 * dv r
def D16 (x : Int) : Prop := 0 ≤ x ∧ x ≤ 65535
def Long (l : List Int) (V : Int) : Prop := l.length = 12 ∧ (∀ x ∈ l, D16 x) ∧ dv l = V
theorem Long.open {l : List Int} {V : Int} (h : Long l V) : ∃ d0 d1 d2 d3 d4 d5 d6 d7 d8 d9 d10 d11, l = [d0, d1, d2, d3, d4, d5, d6, d7, d8, d9, d10, d11] ∧ D16 d0 ∧ D16 d1 ∧ D16 d2 ∧ D16 d3 ∧ D16 d4 ∧ D16 d5 ∧ D16 d6 ∧ D16 d7 ∧ D16 d8 ∧ D16 d9 ∧ D16 d10 ∧ D16 d11 ∧
    V = d0 + 65536 * (d1 + 65536 * (d2 + 65536 * (d3 + 65536 * (d4 + 65536 * (d5 + 65536 * (d6 + 65536 * (d7 + 65536 * (d8 + 65536 * (d9 + 65536 * (d10 + 65536 * (d11 + 65536 * 0))))))))))) := by
  obtain ⟨h1, h2, h3⟩ := h
  match l, h1 with
  | [d0, d1, d2, d3, d4, d5, d6, d7, d8, d9, d10, d11], _ =>
    simp only [List.mem_cons, List.not_mem_nil, or_false, forall_eq_or_imp, forall_eq] at h2
    exact ⟨d0, d1, d2, d3, d4, d5, d6, d7, d8, d9, d10, d11, rfl, h2.1, h2.2.1, h2.2.2.1, h2.2.2.2.1, h2.2.2.2.2.1, h2.2.2.2.2.2.1, h2.2.2.2.2.2.2.1, h2.2.2.2.2.2.2.2.1, h2.2.2.2.2.2.2.2.2.1, h2.2.2.2.2.2.2.2.2.2.1, h2.2.2.2.2.2.2.2.2.2.2.1, h2.2.2.2.2.2.2.2.2.2.2.2, h3.symm⟩
theorem Long.in {l : List Int} {V : Int} (h : Long l V) : 0 ≤ V ∧ V ≤ 6277101735386680763835789423207666416102355444464034512895 := by
  obtain ⟨d0, d1, d2, d3, d4, d5, d6, d7, d8, d9, d10, d11, rfl, k0, k1, k2, k3, k4, k5, k6, k7, k8, k9, k10, k11, e⟩ := h.open
  unfold D16 at *
  omega
/-! ### sums -/
def addc : Int → List Int → List Int → List Int
  | c, x :: xs, y :: ys =>
    Int.tmod (IntKind.wrap .u64 (IntKind.wrap .u64 (c + x) + y)) 65536 :: addc (IntKind.wrap .u64 (Int.tdiv (IntKind.wrap .u64 (IntKind.wrap .u64 (c + x) + y)) 65536)) xs ys
  | _, _, _ => []
theorem addc_spec : ∀ (xs ys : List Int) (c : Int), (∀ x ∈ xs, D16 x) → (∀ y ∈ ys, D16 y) → xs.length = ys.length → 0 ≤ c ∧ c ≤ 1 → (addc c xs ys).length = xs.length ∧ (∀ z ∈ addc c xs ys, D16 z) ∧ ∃ k, 0 ≤ k ∧ k ≤ 1 ∧ dv (addc c xs ys) + 65536 ^ xs.length * k = c + dv xs + dv ys
  | [], [], c, _, _, _, hc => ⟨rfl, (fun z hz => by cases hz), c, hc.1, hc.2, by simp [addc, dv]⟩
  | x :: xs, y :: ys, c, hx, hy, hl, hc => by
    have hx0 := hx x (by simp)
    have hy0 := hy y (by simp)
    unfold D16 at hx0 hy0
    have e1 : IntKind.wrap .u64 (IntKind.wrap .u64 (c + x) + y) = c + x + y := by rw [wui (n := c + x) (by omega), wui (by omega)]
    have e2 : IntKind.wrap .u64 (Int.tdiv (c + x + y) 65536) = (c + x + y) / 65536 := by rw [tdiv_pos (by omega), wui (by omega)]
    obtain ⟨i1, i2, k, k0, k1, k2⟩ := addc_spec xs ys ((c + x + y) / 65536) (fun z hz => hx z (by simp [hz])) (fun z hz => hy z (by simp [hz])) (by simpa using hl) (by omega)
    unfold addc
    rw [e1, e2, tmod_pos (by omega)]
    refine ⟨by simp [i1], fun z hz => ?_, k, k0, k1, ?_⟩
    · rcases List.mem_cons.1 hz with rfl | hz
      · unfold D16; omega
      · exact i2 z hz
    · simp only [dv, List.length_cons, Int.pow_succ]
      generalize (65536 : Int) ^ xs.length = p at *
      have : p * 65536 * k = 65536 * (p * k) := by grind
      rw [this]
      generalize p * k = q at *
      omega
theorem rPlus {a b : List Int} {A B : Int} (ha : Long a A) (hb : Long b B) : ∃ l, N102 (a, b, ()) = some (l, ()) ∧ Long l ((A + B) % 6277101735386680763835789423207666416102355444464034512896) := by
  have hlen : a.length = 12 := ha.1
  obtain ⟨h1, h2, k, k0, k1, k2⟩ := addc_spec a b 0 ha.2.1 hb.2.1 (ha.1.trans hb.1.symm) (by omega)
  refine ⟨addc 0 a b, ?_, h1.trans ha.1, h2, ?_⟩
  · unfold N102 M102
    obtain ⟨a0, a1, a2, a3, a4, a5, a6, a7, a8, a9, a10, a11, rfl, _⟩ := ha.open
    obtain ⟨b0, b1, b2, b3, b4, b5, b6, b7, b8, b9, b10, b11, rfl, _⟩ := hb.open
    have : itrs R102_0 ([a0, a1, a2, a3, a4, a5, a6, a7, a8, a9, a10, a11], [b0, b1, b2, b3, b4, b5, b6, b7, b8, b9, b10, b11], List.replicate 12 0, 0, 0, ()) = some (addc 0 [a0, a1, a2, a3, a4, a5, a6, a7, a8, a9, a10, a11] [b0, b1, b2, b3, b4, b5, b6, b7, b8, b9, b10, b11], List.replicate 12 0, ()) := itrs_of (n := 13) (by kernel_rfl) (by omega)
    simp only [this, Option.bind_some]
  · have hv : Long (addc 0 a b) (dv (addc 0 a b)) := ⟨h1.trans ha.1, h2, rfl⟩
    have := hv.in
    rw [hlen, ha.2.2, hb.2.2, show (65536 : Int) ^ 12 = 6277101735386680763835789423207666416102355444464034512896 from by decide] at k2
    omega
/-! ### opposites -/
def turn : List Int → List Int
  | [] => []
  | x :: xs => IntKind.wrap .u64 (65535 - x) :: turn xs
theorem turn_spec : ∀ (xs : List Int), (∀ x ∈ xs, D16 x) → (turn xs).length = xs.length ∧ (∀ z ∈ turn xs, D16 z) ∧ dv (turn xs) + dv xs + 1 = 65536 ^ xs.length
  | [], _ => ⟨rfl, (fun z hz => by cases hz), by simp [turn, dv]⟩
  | x :: xs, hx => by
    have hx0 := hx x (by simp)
    unfold D16 at hx0
    obtain ⟨i1, i2, i3⟩ := turn_spec xs fun z hz => hx z (by simp [hz])
    unfold turn
    rw [wui (by omega)]
    refine ⟨by simp [i1], fun z hz => ?_, ?_⟩
    · rcases List.mem_cons.1 hz with rfl | hz
      · unfold D16; omega
      · exact i2 z hz
    · simp only [dv, List.length_cons, Int.pow_succ]
      omega
theorem Long_one : Long [1, 0, 0, 0, 0, 0, 0, 0, 0, 0, 0, 0] 1 := by
  refine ⟨rfl, ?_, rfl⟩
  simp [D16]
theorem rTurned {a : List Int} {A : Int} (ha : Long a A) : ∃ l, N100 (a, ()) = some (l, ()) ∧ Long l ((-A) % 6277101735386680763835789423207666416102355444464034512896) := by
  obtain ⟨h1, h2, h3⟩ := turn_spec a ha.2.1
  rw [ha.1, ha.2.2, show (65536 : Int) ^ 12 = 6277101735386680763835789423207666416102355444464034512896 from by decide] at h3
  obtain ⟨l, k1, k2⟩ := rPlus ⟨h1.trans ha.1, h2, rfl⟩ Long_one
  refine ⟨l, ?_, ?_⟩
  · obtain ⟨a0, a1, a2, a3, a4, a5, a6, a7, a8, a9, a10, a11, rfl, _⟩ := ha.open
    unfold N100 M100
    have : itrs R100_0 ([a0, a1, a2, a3, a4, a5, a6, a7, a8, a9, a10, a11], List.replicate 12 0, 0, ()) = some (turn [a0, a1, a2, a3, a4, a5, a6, a7, a8, a9, a10, a11], List.replicate 12 0, ()) := itrs_of (n := 13) (by kernel_rfl) (by omega)
    simp only [this, Option.bind_some, k1]
  · have hA := ha.in
    rw [show -A = dv (turn a) + 1 + (-1) * 6277101735386680763835789423207666416102355444464034512896 from by omega]
    rw [show (dv (turn a) + 1 + (-1) * 6277101735386680763835789423207666416102355444464034512896) % 6277101735386680763835789423207666416102355444464034512896 = (dv (turn a) + 1) % 6277101735386680763835789423207666416102355444464034512896 from by omega]
    exact k2
/-! ### a number's digits -/
def long (v : Int) : Int := v % 6277101735386680763835789423207666416102355444464034512896
theorem sh_eq {x : Int} {n : Nat} {m : Int} (h : (2 : Int) ^ n = m) (hm : 0 ≤ m) : Int.fdiv x (2 ^ n) = x / m := by rw [h, fdiv_pos hm]
theorem sh_0 (x : Int) : Int.fdiv x (2 ^ 0) = x / 1 := sh_eq (by decide) (by omega)
theorem sh_16 (x : Int) : Int.fdiv x (2 ^ 16) = x / 65536 := sh_eq (by decide) (by omega)
theorem sh_32 (x : Int) : Int.fdiv x (2 ^ 32) = x / 4294967296 := sh_eq (by decide) (by omega)
theorem sh_48 (x : Int) : Int.fdiv x (2 ^ 48) = x / 281474976710656 := sh_eq (by decide) (by omega)
theorem rDigits {h l : Int} (b : WB h l) : ∃ d, N98 ((h, l), ()) = some (d, ()) ∧ Long d (long (wv h l)) := by
  have L1 : itrs R98_0 ((h, l, ()), List.replicate 12 0, List.replicate 12 0, 0, ()) = some ((h, l, ()), List.replicate 12 0, [Int.tmod (Int.fdiv l (2 ^ 0)) 65536, Int.tmod (Int.fdiv l (2 ^ 16)) 65536, Int.tmod (Int.fdiv l (2 ^ 32)) 65536, Int.tmod (Int.fdiv l (2 ^ 48)) 65536, Int.tmod (Int.fdiv (IntKind.wrap .u64 h) (2 ^ 0)) 65536, Int.tmod (Int.fdiv (IntKind.wrap .u64 h) (2 ^ 16)) 65536, Int.tmod (Int.fdiv (IntKind.wrap .u64 h) (2 ^ 32)) 65536, Int.tmod (Int.fdiv (IntKind.wrap .u64 h) (2 ^ 48)) 65536, 0, 0, 0, 0], ()) := itrs_of (n := 5) (by kernel_rfl) (by omega)
  obtain ⟨⟨p1, p2⟩, p3, p4⟩ := b
  have hw : 0 ≤ IntKind.wrap .u64 h ∧ IntKind.wrap .u64 h ≤ 18446744073709551615 := by rw [wu]; omega
  have hh := wu h
  unfold N98 M98
  simp only [L1, Option.bind_some]
  generalize IntKind.wrap .u64 h = u at *
  rw [sh_0, sh_16, sh_32, sh_48, sh_0, sh_16, sh_32, sh_48]
  rw [tmod_pos (by omega), tmod_pos (by omega), tmod_pos (by omega), tmod_pos (by omega), tmod_pos (by omega), tmod_pos (by omega), tmod_pos (by omega), tmod_pos (by omega)]
  by_cases hn : h < 0
  · rw [bif_t (decide_eq_true hn)]
    have L2 : ∀ t d0 d1 d2 d3 d4 d5 d6 d7, itrs R98_2 (t, [d0, d1, d2, d3, d4, d5, d6, d7, 0, 0, 0, 0], 8, ()) = some (t, [d0, d1, d2, d3, d4, d5, d6, d7, 65535, 65535, 65535, 65535], ()) := fun t d0 d1 d2 d3 d4 d5 d6 d7 => itrs_of (n := 5) (by kernel_rfl) (by omega)
    rw [L2]
    refine ⟨_, rfl, rfl, ?_, ?_⟩
    · simp only [List.mem_cons, List.not_mem_nil, or_false, forall_eq_or_imp, forall_eq, D16]
      omega
    · simp only [dv, long, wv]
      omega
  · rw [bif_f (decide_eq_false hn)]
    refine ⟨_, rfl, rfl, ?_, ?_⟩
    · simp only [List.mem_cons, List.not_mem_nil, or_false, forall_eq_or_imp, forall_eq, D16]
      omega
    · simp only [dv, long, wv]
      omega
theorem horner {d0 d1 d2 d3 : Int} (h0 : D16 d0) (h1 : D16 d1) (h2 : D16 d2) (h3 : D16 d3) :
    IntKind.wrap .u64 (IntKind.wrap .u64 (IntKind.wrap .u64 (IntKind.wrap .u64 (IntKind.wrap .u64 (IntKind.wrap .u64 (IntKind.wrap .u64 (IntKind.wrap .u64 (0 * 65536) + d3) * 65536) + d2) * 65536) + d1) * 65536) + d0) = d0 + 65536 * (d1 + 65536 * (d2 + 65536 * d3)) := by
  unfold D16 at *
  rw [wui (n := 0 * 65536) (by omega), wui (n := 0 * 65536 + d3) (by omega), wui (n := (0 * 65536 + d3) * 65536) (by omega), wui (n := (0 * 65536 + d3) * 65536 + d2) (by omega), wui (n := ((0 * 65536 + d3) * 65536 + d2) * 65536) (by omega), wui (n := ((0 * 65536 + d3) * 65536 + d2) * 65536 + d1) (by omega), wui (n := (((0 * 65536 + d3) * 65536 + d2) * 65536 + d1) * 65536) (by omega), wui (by omega)]
  omega
theorem rAbs {h l : Int} (b : WB h l) : N69 ((h, l), ()) = some (wabs (wv h l) / 18446744073709551616, wabs (wv h l) % 18446744073709551616, ()) := by
  have hv := wv_in b
  obtain ⟨d, k1, k2⟩ := rDigits b
  unfold N69 M69
  simp only [k1, Option.bind_some]
  have read : ∀ (d : List Int) (V : Int), Long d V → V ≤ 170141183460469231731687303715884105728 → ((itrs R69_0 (d, 0, 0, 3, ())).bind fun ⟨y4_0, ⟨y4_1, ()⟩⟩ => (some (y4_0, (y4_1, ())))) = some (V / 18446744073709551616, V % 18446744073709551616, ()) := by
    intro d V hd hV
    obtain ⟨d0, d1, d2, d3, d4, d5, d6, d7, d8, d9, d10, d11, rfl, g0, g1, g2, g3, g4, g5, g6, g7, g8, g9, g10, g11, e⟩ := hd.open
    have L : itrs R69_0 ([d0, d1, d2, d3, d4, d5, d6, d7, d8, d9, d10, d11], 0, 0, 3, ()) = some (IntKind.wrap .u64 (IntKind.wrap .u64 (IntKind.wrap .u64 (IntKind.wrap .u64 (IntKind.wrap .u64 (IntKind.wrap .u64 (IntKind.wrap .u64 (IntKind.wrap .u64 (0 * 65536) + d7) * 65536) + d6) * 65536) + d5) * 65536) + d4), IntKind.wrap .u64 (IntKind.wrap .u64 (IntKind.wrap .u64 (IntKind.wrap .u64 (IntKind.wrap .u64 (IntKind.wrap .u64 (IntKind.wrap .u64 (IntKind.wrap .u64 (0 * 65536) + d3) * 65536) + d2) * 65536) + d1) * 65536) + d0), ()) := itrs_of (n := 5) (by kernel_rfl) (by omega)
    rw [L, horner g0 g1 g2 g3, horner g4 g5 g6 g7]
    unfold D16 at *
    simp only [Option.bind_some]
    congr 2
    · omega
    · congr 1; omega
  have below : N99 (d, ()) = some (decide (wv h l < 0), ()) := by
    obtain ⟨d0, d1, d2, d3, d4, d5, d6, d7, d8, d9, d10, d11, rfl, g0, g1, g2, g3, g4, g5, g6, g7, g8, g9, g10, g11, e⟩ := k2.open
    show some (decide (d11 ≥ 32768), ()) = _
    unfold D16 at *
    unfold long at e
    congr 2
    rw [decide_eq_decide]
    omega
  rw [below]
  simp only [Option.bind_some, bif_p]
  by_cases hn : wv h l < 0
  · obtain ⟨d', j1, j2⟩ := rTurned k2
    rw [if_pos hn, j1]
    simp only [Option.bind_some]
    have := read d' _ j2 (by unfold long; omega)
    rw [show wabs (wv h l) = (-(long (wv h l))) % 6277101735386680763835789423207666416102355444464034512896 from by unfold wabs long; rw [if_pos hn]; omega]
    exact this
  · rw [if_neg hn]
    have := read d _ k2 (by unfold long; omega)
    rw [show wabs (wv h l) = long (wv h l) from by unfold wabs long; rw [if_neg hn]; omega]
    exact this
end Go.Proofs.YtaalnjfmcjdimaaGreat.E
/-
  The reference's numbers told back: sums, differences, joins. No condition beyond the words' own bounds.
-/
namespace Go.Proofs.YtaalnjfmcjdimaaGreat.E
open Go
set_option linter.unusedVariables false
set_option maxRecDepth 100000
theorem rWide {l : List Int} {v : Int} (hv : -3138550867693340381917894711603833208051177722232017256448 ≤ v ∧ v < 3138550867693340381917894711603833208051177722232017256448) (h : Long l (long v)) : N108 (l, ()) = some (if inR v then ((v / 18446744073709551616, v % 18446744073709551616), true, ()) else ((0, 0), false, ())) := by
  obtain ⟨d0, d1, d2, d3, d4, d5, d6, d7, d8, d9, d10, d11, rfl, g0, g1, g2, g3, g4, g5, g6, g7, g8, g9, g10, g11, e⟩ := h.open
  unfold long at e
  have L2 : ∀ z, itrs R108_2 ([d0, d1, d2, d3, d4, d5, d6, d7, d8, d9, d10, d11], z, 0, 0, 3, ()) = some (z, IntKind.wrap .u64 (IntKind.wrap .u64 (IntKind.wrap .u64 (IntKind.wrap .u64 (IntKind.wrap .u64 (IntKind.wrap .u64 (IntKind.wrap .u64 (IntKind.wrap .u64 (0 * 65536) + d3) * 65536) + d2) * 65536) + d1) * 65536) + d0), IntKind.wrap .u64 (IntKind.wrap .u64 (IntKind.wrap .u64 (IntKind.wrap .u64 (IntKind.wrap .u64 (IntKind.wrap .u64 (IntKind.wrap .u64 (IntKind.wrap .u64 (0 * 65536) + d7) * 65536) + d6) * 65536) + d5) * 65536) + d4), ()) := fun ⟨z0, z1, ()⟩ => itrs_of (n := 5) (by kernel_rfl) (by omega)
  have L0 : ∀ z top, itrs R108_0 ([d0, d1, d2, d3, d4, d5, d6, d7, d8, d9, d10, d11], z, top, 8, ()) = bif d8 != top then some (.inr ((0, 0, ()), false, ())) else bif d9 != top then some (.inr ((0, 0, ()), false, ())) else bif d10 != top then some (.inr ((0, 0, ()), false, ())) else bif d11 != top then some (.inr ((0, 0, ()), false, ())) else some (.inl ([d0, d1, d2, d3, d4, d5, d6, d7, d8, d9, d10, d11], z, ())) := by
    intro ⟨z0, z1, ()⟩ top
    have s8 : R108_0 ([d0, d1, d2, d3, d4, d5, d6, d7, d8, d9, d10, d11], (z0, z1, ()), top, 8, ()) = bif d8 != top then some (.inr (.inr ((0, 0, ()), false, ()))) else some (.inl ([d0, d1, d2, d3, d4, d5, d6, d7, d8, d9, d10, d11], (z0, z1, ()), top, 9, ())) := by kernel_rfl
    have s9 : R108_0 ([d0, d1, d2, d3, d4, d5, d6, d7, d8, d9, d10, d11], (z0, z1, ()), top, 9, ()) = bif d9 != top then some (.inr (.inr ((0, 0, ()), false, ()))) else some (.inl ([d0, d1, d2, d3, d4, d5, d6, d7, d8, d9, d10, d11], (z0, z1, ()), top, 10, ())) := by kernel_rfl
    have s10 : R108_0 ([d0, d1, d2, d3, d4, d5, d6, d7, d8, d9, d10, d11], (z0, z1, ()), top, 10, ()) = bif d10 != top then some (.inr (.inr ((0, 0, ()), false, ()))) else some (.inl ([d0, d1, d2, d3, d4, d5, d6, d7, d8, d9, d10, d11], (z0, z1, ()), top, 11, ())) := by kernel_rfl
    have s11 : R108_0 ([d0, d1, d2, d3, d4, d5, d6, d7, d8, d9, d10, d11], (z0, z1, ()), top, 11, ()) = bif d11 != top then some (.inr (.inr ((0, 0, ()), false, ()))) else some (.inl ([d0, d1, d2, d3, d4, d5, d6, d7, d8, d9, d10, d11], (z0, z1, ()), top, 12, ())) := by kernel_rfl
    have s12 : R108_0 ([d0, d1, d2, d3, d4, d5, d6, d7, d8, d9, d10, d11], (z0, z1, ()), top, 12, ()) = some (.inr (.inl ([d0, d1, d2, d3, d4, d5, d6, d7, d8, d9, d10, d11], (z0, z1, ()), ()))) := by kernel_rfl
    refine itrs_eq (n := 5) ?_ (by cases d8 != top <;> cases d9 != top <;> cases d10 != top <;> cases d11 != top <;> rfl) (by omega)
    rw [itr_bif s8, itr_bif s9, itr_bif s10, itr_bif s11, itr_out s12]
  unfold N108 M108
  simp only []
  rw [show [d0, d1, d2, d3, d4, d5, d6, d7, d8, d9, d10, d11][7]? = some d7 from rfl]
  simp only [Option.bind_some, bif_p]
  unfold D16 at *
  have fin : ∀ top : Int, ((bif d8 != top then some (.inr ((0, 0, ()), false, ())) else bif d9 != top then some (.inr ((0, 0, ()), false, ())) else bif d10 != top then some (.inr ((0, 0, ()), false, ())) else bif d11 != top then some (.inr ((0, 0, ()), false, ())) else some (.inl ([d0, d1, d2, d3, d4, d5, d6, d7, d8, d9, d10, d11], (0, 0, ()), ()))) : Option LB108_0) =
      if d8 = top ∧ d9 = top ∧ d10 = top ∧ d11 = top then some (.inl ([d0, d1, d2, d3, d4, d5, d6, d7, d8, d9, d10, d11], (0, 0, ()), ())) else some (.inr ((0, 0, ()), false, ())) := by
    intro top
    simp only [bif_ne]
    (repeat' split) <;> first | rfl | (exfalso; simp_all; done) | (exfalso; omega)
  have H0 := horner g0 g1 g2 g3
  have H1 := horner g4 g5 g6 g7
  by_cases h7 : d7 ≥ 32768
  · rw [if_pos h7, L0, fin]
    by_cases ht : d8 = 65535 ∧ d9 = 65535 ∧ d10 = 65535 ∧ d11 = 65535
    · rw [if_pos ht]
      simp only [Option.bind_some]
      rw [L2]
      simp only [Option.bind_some]
      rw [H0, H1, if_pos (by unfold inR; omega), ws]
      congr 2
      congr 1 <;> omega
    · rw [if_neg ht, if_neg (by unfold inR; omega)]
      rfl
  · rw [if_neg h7, L0, fin]
    by_cases ht : d8 = 0 ∧ d9 = 0 ∧ d10 = 0 ∧ d11 = 0
    · rw [if_pos ht]
      simp only [Option.bind_some]
      rw [L2]
      simp only [Option.bind_some]
      rw [H0, H1, if_pos (by unfold inR; omega), ws]
      congr 2
      congr 1 <;> omega
    · rw [if_neg ht, if_neg (by unfold inR; omega)]
      rfl
theorem rtold {l : List Int} {v : Int} (hv : -3138550867693340381917894711603833208051177722232017256448 ≤ v ∧ v < 3138550867693340381917894711603833208051177722232017256448) (h : Long l (long v)) : N101 (l, ()) = some (wans v) := by
  unfold N101 M101
  simp only [rWide hv h]
  by_cases hr : inR v
  · rw [if_pos hr, wans_in hr]
    rfl
  · rw [if_neg hr, wans_out hr]
    rfl
theorem Long_eq {l : List Int} {V V' : Int} (h : Long l V) (e : V = V') : Long l V' := e ▸ h
theorem rOf {a : Int} (h : -9223372036854775808 ≤ a ∧ a ≤ 9223372036854775807) : N29 (a, ()) = some ((a / 18446744073709551616, a % 18446744073709551616), ()) := by
  unfold N29 M29
  simp only [bif_p, wu]
  by_cases hn : a < 0
  · rw [if_pos hn, show a / 18446744073709551616 = -1 from by omega]
  · rw [if_neg hn, show a / 18446744073709551616 = 0 from by omega]
theorem rJoin (neg : Bool) {hi lo : Int} (h1 : 0 ≤ hi ∧ hi ≤ 18446744073709551615) (h2 : 0 ≤ lo ∧ lo ≤ 18446744073709551615) :
    N70 (neg, hi, lo, ()) = some (wans (if neg = true then -(hi * 18446744073709551616 + lo) else hi * 18446744073709551616 + lo)) := by
  have L0 : ∀ z, itrs R70_0 (neg, hi, lo, z, List.replicate 12 0, 0, ()) = some (neg, z, [Int.tmod (Int.fdiv lo (2 ^ 0)) 65536, Int.tmod (Int.fdiv lo (2 ^ 16)) 65536, Int.tmod (Int.fdiv lo (2 ^ 32)) 65536, Int.tmod (Int.fdiv lo (2 ^ 48)) 65536, Int.tmod (Int.fdiv hi (2 ^ 0)) 65536, Int.tmod (Int.fdiv hi (2 ^ 16)) 65536, Int.tmod (Int.fdiv hi (2 ^ 32)) 65536, Int.tmod (Int.fdiv hi (2 ^ 48)) 65536, 0, 0, 0, 0], ()) := fun ⟨z0, z1, ()⟩ => itrs_of (n := 5) (by kernel_rfl) (by omega)
  unfold N70 M70
  simp only [L0, Option.bind_some]
  rw [sh_0, sh_16, sh_32, sh_48, sh_0, sh_16, sh_32, sh_48]
  rw [tmod_pos (by omega), tmod_pos (by omega), tmod_pos (by omega), tmod_pos (by omega), tmod_pos (by omega), tmod_pos (by omega), tmod_pos (by omega), tmod_pos (by omega)]
  have hL : Long [lo / 1 % 65536, lo / 65536 % 65536, lo / 4294967296 % 65536, lo / 281474976710656 % 65536, hi / 1 % 65536, hi / 65536 % 65536, hi / 4294967296 % 65536, hi / 281474976710656 % 65536, 0, 0, 0, 0] (long (hi * 18446744073709551616 + lo)) := by
    refine ⟨rfl, ?_, ?_⟩
    · simp only [List.mem_cons, List.not_mem_nil, or_false, forall_eq_or_imp, forall_eq, D16]
      omega
    · simp only [dv, long]
      omega
  cases neg with
  | true =>
    obtain ⟨l, k1, k2⟩ := rTurned hL
    rw [bif_t rfl, k1]
    simp only [Option.bind_some]
    rw [rtold (v := -(hi * 18446744073709551616 + lo)) (by omega) (Long_eq k2 (by unfold long; omega))]
    rfl
  | false =>
    rw [bif_f rfl, rtold (by omega) hL]
    rfl
theorem rAdd {a0 a1 b0 b1 : Int} (ha : WB a0 a1) (hb : WB b0 b1) : N80 ((a0, a1), (b0, b1), ()) = some (wans (wv a0 a1 + wv b0 b1)) := by
  obtain ⟨l, k1, k2⟩ := rDigits ha
  obtain ⟨m, j1, j2⟩ := rDigits hb
  obtain ⟨n, i1, i2⟩ := rPlus k2 j2
  have h1 := wv_in ha
  have h2 := wv_in hb
  unfold N80 M80
  simp only [k1, j1, i1, Option.bind_some]
  rw [rtold (v := wv a0 a1 + wv b0 b1) (by omega) (Long_eq i2 (by unfold long; omega))]
  rfl
theorem rSub {a0 a1 b0 b1 : Int} (ha : WB a0 a1) (hb : WB b0 b1) : N79 ((a0, a1), (b0, b1), ()) = some (wans (wv a0 a1 - wv b0 b1)) := by
  obtain ⟨l, k1, k2⟩ := rDigits ha
  obtain ⟨m, j1, j2⟩ := rDigits hb
  obtain ⟨m', t1, t2⟩ := rTurned j2
  obtain ⟨n, i1, i2⟩ := rPlus k2 t2
  have h1 := wv_in ha
  have h2 := wv_in hb
  unfold N79 M79
  simp only [k1, j1, t1, i1, Option.bind_some]
  rw [rtold (v := wv a0 a1 - wv b0 b1) (by omega) (Long_eq i2 (by unfold long; omega))]
  rfl
end Go.Proofs.YtaalnjfmcjdimaaGreat.E
/-
  The reference's quotients and rests of numbers of two words are the same. No condition beyond the words' own bounds.
-/
namespace Go.Proofs.YtaalnjfmcjdimaaGreat.E
open Go
set_option linter.unusedVariables false
set_option maxRecDepth 100000
/-! ### the reference's quotient, bit by bit -/
theorem rtwice {V bit : Int} (h : 0 ≤ V) (hb : 0 ≤ bit ∧ bit ≤ 1) (h2 : 2 * V + bit < 340282366920938463463374607431768211456) : N104 (V / 18446744073709551616, V % 18446744073709551616, bit, ()) = some ((2 * V + bit) / 18446744073709551616, (2 * V + bit) % 18446744073709551616, ()) := by
  unfold N104 M104
  simp only [wu]
  rw [fdiv_pos (by omega)]
  congr 2
  · omega
  · congr 1; omega
theorem ratLeast {X Y : Int} : N105 (X / 18446744073709551616, X % 18446744073709551616, Y / 18446744073709551616, Y % 18446744073709551616, ()) = some (decide (X ≥ Y), ()) := by
  unfold N105 M105
  simp only [bif_p, bif_eq]
  (repeat' split) <;> (congr 2; first | (rw [decide_eq_decide]; omega) | (symm; rw [decide_eq_true_eq]; omega) | (symm; rw [decide_eq_false_iff_not]; omega))
theorem rless {X Y : Int} (h : 0 ≤ Y ∧ Y ≤ X) (hX : X < 340282366920938463463374607431768211456) : N106 (X / 18446744073709551616, X % 18446744073709551616, Y / 18446744073709551616, Y % 18446744073709551616, ()) = some ((X - Y) / 18446744073709551616, (X - Y) % 18446744073709551616, ()) := by
  unfold N106 M106
  simp only [bif_p, wu]
  split
  · congr 2
    · omega
    · congr 1; omega
  · congr 2
    · omega
    · congr 1; omega
theorem bit_hi {A : Int} {i : Nat} (h : 64 ≤ i) : A / 18446744073709551616 / 2 ^ (i - 64) = A / 2 ^ i := by
  rw [Int.ediv_ediv_of_nonneg (by omega), show (18446744073709551616 : Int) * 2 ^ (i - 64) = 2 ^ i from by
    rw [show (18446744073709551616 : Int) = 2 ^ 64 from by decide, ← Int.pow_add]; congr 1; omega]
theorem bit_lo {A : Int} {m : Nat} (h : m ≤ 63) : A % 18446744073709551616 / 2 ^ m % 2 = A / 2 ^ m % 2 := by
  have hp : (0 : Int) < 2 ^ m := Int.pow_pos (by decide)
  have h1 := Int.mul_ediv_add_emod A 18446744073709551616
  have h2 : (18446744073709551616 : Int) = 2 ^ m * (2 * 2 ^ (63 - m)) := by
    rw [show (18446744073709551616 : Int) = 2 ^ 64 from by decide, show (64 : Nat) = m + (1 + (63 - m)) from by omega, Int.pow_add, Int.pow_add]
    rfl
  generalize A % 18446744073709551616 = al at *
  have h3 : A / 2 ^ m = 2 * (2 ^ (63 - m) * (A / 18446744073709551616)) + al / 2 ^ m := by
    conv => lhs; rw [← h1, h2]
    rw [show (2 : Int) ^ m * (2 * 2 ^ (63 - m)) * (A / (2 ^ m * (2 * 2 ^ (63 - m)))) + al = al + 2 ^ m * (2 * (2 ^ (63 - m) * (A / (2 ^ m * (2 * 2 ^ (63 - m)))))) from by
      rw [Int.mul_assoc (2 ^ m), Int.mul_assoc 2]; omega, Int.add_mul_ediv_left _ _ (by omega), ← h2]
    omega
  omega
theorem rqr_loop {za zb zt zs : Int × Int × Unit} {A B : Int} (hA : 0 ≤ A ∧ A ≤ 170141183460469231731687303715884105728) (hB : 1 ≤ B ∧ B ≤ 170141183460469231731687303715884105728) : ∀ (m : Nat) (Q R : Int), m ≤ 128 → A / 2 ^ m = Q * B + R → 0 ≤ R ∧ R < B → 0 ≤ Q →
    itr R77_0 (m + 1) (za, zb, zt, zs, A / 18446744073709551616, A % 18446744073709551616, B / 18446744073709551616, B % 18446744073709551616, Q / 18446744073709551616, Q % 18446744073709551616, R / 18446744073709551616, R % 18446744073709551616, (m : Int) - 1, ()) =
      some (za, zb, zt, zs, A / B / 18446744073709551616, A / B % 18446744073709551616, A % B / 18446744073709551616, A % B % 18446744073709551616, ()) := by
  obtain ⟨za0, za1, ⟨⟩⟩ := za
  obtain ⟨zb0, zb1, ⟨⟩⟩ := zb
  obtain ⟨zt0, zt1, ⟨⟩⟩ := zt
  obtain ⟨zs0, zs1, ⟨⟩⟩ := zs
  intro m
  induction m with
  | zero =>
    intro Q R hm e hR hQ
    rw [Int.pow_zero, Int.ediv_one] at e
    obtain ⟨e1, e2⟩ := div_mod_of (by omega) e hR
    refine itr_out ?_
    unfold R77_0 Q77_0
    simp only []
    rw [bif_f (decide_eq_false (by omega)), e1, e2]
  | succ m ih =>
    intro Q R hm e hR hQ
    have hp : (0 : Int) < 2 ^ m := Int.pow_pos (by decide)
    have hstep := two_step (a := A) (m := m)
    have hbit : 0 ≤ A / 2 ^ m % 2 ∧ A / 2 ^ m % 2 ≤ 1 := by omega
    have eR : A / 2 ^ m = 2 * Q * B + (2 * R + A / 2 ^ m % 2) := by rw [Int.mul_assoc]; omega
    have hAm : A / 2 ^ m ≤ A := Int.ediv_le_self _ hA.1
    have hQB : 2 * Q ≤ 2 * Q * B := by
      have := Int.mul_le_mul_of_nonneg_left hB.1 (show 0 ≤ 2 * Q by omega)
      rwa [Int.mul_one] at this
    generalize hbe : A / 2 ^ m % 2 = bit at *
    have hR' : 0 ≤ 2 * R + bit ∧ 2 * R + bit < 2 * B := by omega
    have hround : R77_0 ((za0, za1, ()), (zb0, zb1, ()), (zt0, zt1, ()), (zs0, zs1, ()), A / 18446744073709551616, A % 18446744073709551616, B / 18446744073709551616, B % 18446744073709551616, Q / 18446744073709551616, Q % 18446744073709551616, R / 18446744073709551616, R % 18446744073709551616, (m : Int), ()) =
        if B ≤ 2 * R + bit then some (.inl ((za0, za1, ()), (zb0, zb1, ()), (zt0, zt1, ()), (zs0, zs1, ()), A / 18446744073709551616, A % 18446744073709551616, B / 18446744073709551616, B % 18446744073709551616, (2 * Q + 1) / 18446744073709551616, (2 * Q + 1) % 18446744073709551616, (2 * R + bit - B) / 18446744073709551616, (2 * R + bit - B) % 18446744073709551616, (m : Int) - 1, ()))
        else some (.inl ((za0, za1, ()), (zb0, zb1, ()), (zt0, zt1, ()), (zs0, zs1, ()), A / 18446744073709551616, A % 18446744073709551616, B / 18446744073709551616, B % 18446744073709551616, (2 * Q + 0) / 18446744073709551616, (2 * Q + 0) % 18446744073709551616, (2 * R + bit) / 18446744073709551616, (2 * R + bit) % 18446744073709551616, (m : Int) - 1, ())) := by
      unfold R77_0 Q77_0
      simp only []
      have em : (m : Int).tmod 64 = ((m % 64 : Nat) : Int) := by rw [tmod_pos (by omega)]; omega
      rw [bif_t (decide_eq_true (by omega)), em, wui (n := ((m % 64 : Nat) : Int)) (by omega), bif_t (decide_eq_true (show (0 : Int) ≤ ((m % 64 : Nat) : Int) by omega)), pow_min (by omega)]
      simp only [Option.bind_some]
      rw [wsi (n := (m : Int) - 1) (by omega)]
      have tail : ∀ b : Int, b = bit → (N104 (R / 18446744073709551616, R % 18446744073709551616, b, ())) = some ((2 * R + bit) / 18446744073709551616, (2 * R + bit) % 18446744073709551616, ()) := by
        intro b hb
        subst hb
        exact rtwice hR.1 hbit (by omega)
      by_cases h64 : (m : Int) ≥ 64
      · rw [bif_t (decide_eq_true h64), tail _ (by rw [fdiv_pos (Int.le_of_lt (Int.pow_pos (by decide))), tmod_pos (by exact Int.ediv_nonneg (Int.ediv_nonneg hA.1 (by omega)) (Int.le_of_lt (Int.pow_pos (by decide)))), show m % 64 = m - 64 from by omega, bit_hi (by omega), hbe])]
        simp only [Option.bind_some]
        rw [ratLeast]
        simp only [Option.bind_some]
        by_cases hge : 2 * R + bit ≥ B
        · rw [bif_t (decide_eq_true hge), if_pos hge, rless (by omega) (by omega)]
          simp only [Option.bind_some]
          rw [rtwice hQ (by omega) (by omega)]
          rfl
        · rw [bif_f (decide_eq_false hge), if_neg hge, rtwice hQ (by omega) (by omega)]
          rfl
      · rw [bif_f (decide_eq_false h64), tail _ (by rw [fdiv_pos (Int.le_of_lt (Int.pow_pos (by decide))), tmod_pos (by exact Int.ediv_nonneg (by omega) (Int.le_of_lt (Int.pow_pos (by decide)))), show m % 64 = m from by omega, bit_lo (by omega), hbe])]
        simp only [Option.bind_some]
        rw [ratLeast]
        simp only [Option.bind_some]
        by_cases hge : 2 * R + bit ≥ B
        · rw [bif_t (decide_eq_true hge), if_pos hge, rless (by omega) (by omega)]
          simp only [Option.bind_some]
          rw [rtwice hQ (by omega) (by omega)]
          rfl
        · rw [bif_f (decide_eq_false hge), if_neg hge, rtwice hQ (by omega) (by omega)]
          rfl
    rw [itr_succ, show (((m + 1 : Nat) : Int) - 1) = (m : Int) from by omega, hround]
    by_cases hle : B ≤ 2 * R + bit
    · rw [if_pos hle]
      exact ih (2 * Q + 1) (2 * R + bit - B) (by omega) (by rw [Int.add_mul, Int.one_mul]; omega) (by omega) (by omega)
    · rw [if_neg hle, Int.add_zero]
      exact ih (2 * Q) (2 * R + bit) (by omega) eR (by omega) (by omega)
theorem rQuoRem {a0 a1 b0 b1 : Int} (ha : WB a0 a1) (hb : WB b0 b1) : N77 ((a0, a1), (b0, b1), ()) = some (qrans (wv a0 a1) (wv b0 b1)) := by
  unfold N77 M77
  simp only []
  by_cases h0 : wv b0 b1 = 0
  · obtain ⟨e1, e2⟩ := (wv_zero hb).1 h0
    rw [bif_t (by rw [e1]; rfl), bif_t (by rw [e2]; rfl)]
    unfold qrans
    rw [if_pos h0]
  · have hA := wabs_in ha
    have hB := wabs_in hb
    have b0' : 0 < wabs (wv b0 b1) := by unfold wabs; split <;> omega
    rw [rAbs ha]
    simp only [Option.bind_some]
    rw [rAbs hb]
    simp only [Option.bind_some]
    have L := itrs_of (rqr_loop (za := (a0, a1, ())) (zb := (b0, b1, ())) (zt := (0, 0, ())) (zs := (0, 0, ())) hA ⟨by omega, hB.2⟩ 128 0 0 (by omega) (by
      rw [show (2 : Int) ^ 128 = 340282366920938463463374607431768211456 from by decide]; omega) (by omega) (by omega)) (by omega)
    rw [show (0 : Int) / 18446744073709551616 = 0 from rfl, show (0 : Int) % 18446744073709551616 = 0 from rfl, show ((128 : Nat) : Int) - 1 = 127 from rfl] at L
    rw [L]
    simp only [Option.bind_some]
    have r0 := Int.emod_nonneg (wabs (wv a0 a1)) (show wabs (wv b0 b1) ≠ 0 by omega)
    have r1 := Int.emod_lt_of_pos (wabs (wv a0 a1)) b0'
    have q0 : 0 ≤ wabs (wv a0 a1) / wabs (wv b0 b1) := Int.ediv_nonneg hA.1 (by omega)
    have q1 : wabs (wv a0 a1) / wabs (wv b0 b1) ≤ wabs (wv a0 a1) := Int.ediv_le_self _ hA.1
    have hr := rv_in hA.2 hB.2 h0
    rw [rJoin _ (by omega) (by omega), rJoin _ (by omega) (by omega)]
    simp only [Option.bind_some]
    have hq : (if (!decide (a0 < 0) == decide (b0 < 0)) = true then -(wabs (wv a0 a1) / wabs (wv b0 b1) / 18446744073709551616 * 18446744073709551616 + wabs (wv a0 a1) / wabs (wv b0 b1) % 18446744073709551616) else wabs (wv a0 a1) / wabs (wv b0 b1) / 18446744073709551616 * 18446744073709551616 + wabs (wv a0 a1) / wabs (wv b0 b1) % 18446744073709551616) = qv (wv a0 a1) (wv b0 b1) := by
      rw [neg_iff ha, neg_iff hb, show wabs (wv a0 a1) / wabs (wv b0 b1) / 18446744073709551616 * 18446744073709551616 + wabs (wv a0 a1) / wabs (wv b0 b1) % 18446744073709551616 = wabs (wv a0 a1) / wabs (wv b0 b1) from by omega]
      rfl
    have hr2 : (if decide (a0 < 0) = true then -(wabs (wv a0 a1) % wabs (wv b0 b1) / 18446744073709551616 * 18446744073709551616 + wabs (wv a0 a1) % wabs (wv b0 b1) % 18446744073709551616) else wabs (wv a0 a1) % wabs (wv b0 b1) / 18446744073709551616 * 18446744073709551616 + wabs (wv a0 a1) % wabs (wv b0 b1) % 18446744073709551616) = rv (wv a0 a1) (wv b0 b1) := by
      rw [neg_iff ha, show wabs (wv a0 a1) % wabs (wv b0 b1) / 18446744073709551616 * 18446744073709551616 + wabs (wv a0 a1) % wabs (wv b0 b1) % 18446744073709551616 = wabs (wv a0 a1) % wabs (wv b0 b1) from by omega]
      rfl
    rw [hq, hr2]
    have hn := (not_congr (wv_zero hb)).1 h0
    unfold qrans
    rw [if_neg h0]
    by_cases hi : inR (qv (wv a0 a1) (wv b0 b1))
    · rw [if_pos hi, wans_in hi, wans_in hr]
      by_cases hb0 : b0 = 0
      · rw [bif_t (show (b0 == 0) = true from by simpa using hb0), bif_f (show (b1 == 0) = false from by simp; omega)]
        rfl
      · rw [bif_f (show (b0 == 0) = false from by simpa using hb0)]
        rfl
    · rw [if_neg hi, wans_out hi]
      by_cases hb0 : b0 = 0
      · rw [bif_t (show (b0 == 0) = true from by simpa using hb0), bif_f (show (b1 == 0) = false from by simp; omega)]
        rfl
      · rw [bif_f (show (b0 == 0) = false from by simpa using hb0)]
        rfl
end Go.Proofs.YtaalnjfmcjdimaaGreat.E
/-
  The reference's rounded quotients are the same. No condition beyond the words' own bounds.
-/
namespace Go.Proofs.YtaalnjfmcjdimaaGreat.E
open Go
set_option linter.unusedVariables false
set_option maxRecDepth 100000
section
variable {A B b0 b1 mode : Int} (hb : WB b0 b1) (hB : wv b0 b1 = B) (hA : wabs A ≤ 170141183460469231731687303715884105728) (h0 : B ≠ 0) (hr : rv A B ≠ 0)
include hb hB hA h0 hr
theorem rNearer (hm : mode = 3 ∨ mode = 4) : N78 ((qv A B / 18446744073709551616, qv A B % 18446744073709551616), (rv A B / 18446744073709551616, rv A B % 18446744073709551616), (b0, b1), mode, ()) = some (far A B mode, ()) := by
  have hB2 := wabs_in hb
  rw [hB] at hB2
  have hri := rv_in hA hB2.2 h0
  have wr := WB_in hri
  have hb0 : 0 < wabs B := by unfold wabs; split <;> omega
  have r0 := Int.emod_nonneg (wabs A) (show wabs B ≠ 0 by omega)
  have r1 := Int.emod_lt_of_pos (wabs A) hb0
  unfold N78 M78 far
  simp only []
  rw [bif_f (show (mode == 0) = false from by simp; omega), bif_f (show (mode == 1) = false from by simp; omega), bif_f (show (mode == 2) = false from by simp; omega)]
  rw [rAbs wr, wv_of, wabs_rv h0]
  simp only [Option.bind_some]
  rw [rAbs hb, hB]
  simp only [Option.bind_some]
  have hq : 0 ≤ qv A B % 18446744073709551616 := by omega
  rw [tmod_pos hq]
  generalize wabs A % wabs B = r at *
  generalize wabs B = b at *
  rw [rless (by omega) (by omega)]
  simp only [Option.bind_some]
  rw [ratLeast]
  simp only [Option.bind_some]
  have hqd : (qv A B % 18446744073709551616 % 2 == 1) = decide (qv A B % 18446744073709551616 % 2 = 1) := rfl
  rw [hqd]
  generalize decide (qv A B % 18446744073709551616 % 2 = 1) = od
  simp only [bif_p, bif_eq]
  have hw : (if mode = 3 then (some (true, ()) : Option B78) else some (od, ())) = some (if mode = 3 then true else od, ()) := by split <;> rfl
  simp only [hw]
  by_cases k2 : r / 18446744073709551616 = (b - r) / 18446744073709551616
  · rw [if_pos k2]
    by_cases k4 : r % 18446744073709551616 = (b - r) % 18446744073709551616
    · rw [if_pos k4, if_pos (show r = b - r by omega)]
    · rw [if_neg k4, if_neg (show ¬ r = b - r by omega)]
  · rw [if_neg k2, if_neg (by omega)]
end
theorem rDiv {a0 a1 b0 b1 mode : Int} (ha : WB a0 a1) (hb : WB b0 b1) : N35 ((a0, a1), (b0, b1), mode, ()) = some (divans (wv a0 a1) (wv b0 b1) mode) := by
  unfold N35 M35 divans
  simp only []
  by_cases m0 : mode < 0
  · rw [bif_t (decide_eq_true m0), if_pos m0]
  rw [bif_f (decide_eq_false m0), if_neg m0]
  by_cases m4 : mode > 4
  · rw [bif_t (decide_eq_true m4), if_pos m4]
  rw [bif_f (decide_eq_false m4), if_neg m4, rQuoRem ha hb]
  simp only [Option.bind_some]
  unfold qrans
  by_cases h0 : wv b0 b1 = 0
  · rw [if_pos h0, if_pos h0]
    rfl
  rw [if_neg h0, if_neg h0]
  by_cases hq : inR (qv (wv a0 a1) (wv b0 b1))
  · rw [if_pos hq, if_pos hq]
    simp only [bne_self_eq_false, cond_false]
    have hri := rv_in (wabs_in ha).2 (wabs_in hb).2 h0
    have wq := WB_in hq
    have S := rSub wq (show WB 0 1 from by unfold WB; omega)
    have D := rAdd wq (show WB 0 1 from by unfold WB; omega)
    have O : N29 (1, ()) = some ((0, 1), ()) := rOf (a := 1) (by omega)
    rw [wv_of, show wv 0 1 = 1 from rfl] at S D
    by_cases hr : rv (wv a0 a1) (wv b0 b1) = 0
    · rw [if_pos hr, hr]
      rfl
    · rw [if_neg hr]
      have nr := fun m hm => rNearer (mode := m) hb rfl (wabs_in ha).2 h0 hr hm
      rw [neg_iff ha, neg_iff hb]
      have hz : ¬ (rv (wv a0 a1) (wv b0 b1) / 18446744073709551616 = 0 ∧ rv (wv a0 a1) (wv b0 b1) % 18446744073709551616 = 0) := by omega
      generalize hx : (rv (wv a0 a1) (wv b0 b1) / 18446744073709551616) = x at *
      generalize hy : (rv (wv a0 a1) (wv b0 b1) % 18446744073709551616) = y at *
      have hm : mode = 0 ∨ mode = 1 ∨ mode = 2 ∨ mode = 3 ∨ mode = 4 := by omega
      by_cases k1 : x = 0
      · rw [bif_t (show (x == 0) = true from by simpa using k1), bif_f (show (y == 0) = false from by simp; omega)]
        rcases hm with rfl | rfl | rfl | rfl | rfl
        · simp only [O, S, D, Option.bind_some, far, beq_self_eq_true, cond_true, bif_not]
          cases (decide (wv a0 a1 < 0) == decide (wv b0 b1 < 0)) <;> rfl
        · simp only [O, S, D, Option.bind_some, far, beq_self_eq_true, cond_true, bif_not, Int.reduceBEq, cond_false]
          cases (decide (wv a0 a1 < 0) == decide (wv b0 b1 < 0)) <;> rfl
        · rfl
        · simp only [O, S, D, nr 3 (.inl rfl), Option.bind_some, beq_self_eq_true, cond_true, bif_not, Int.reduceBEq, cond_false]
          cases far (wv a0 a1) (wv b0 b1) 3 <;> cases (decide (wv a0 a1 < 0) == decide (wv b0 b1 < 0)) <;> rfl
        · simp only [O, S, D, nr 4 (.inr rfl), Option.bind_some, beq_self_eq_true, cond_true, bif_not, Int.reduceBEq, cond_false]
          cases far (wv a0 a1) (wv b0 b1) 4 <;> cases (decide (wv a0 a1 < 0) == decide (wv b0 b1 < 0)) <;> rfl
      · rw [bif_f (show (x == 0) = false from by simpa using k1)]
        rcases hm with rfl | rfl | rfl | rfl | rfl
        · simp only [O, S, D, Option.bind_some, far, beq_self_eq_true, cond_true, bif_not]
          cases (decide (wv a0 a1 < 0) == decide (wv b0 b1 < 0)) <;> rfl
        · simp only [O, S, D, Option.bind_some, far, beq_self_eq_true, cond_true, bif_not, Int.reduceBEq, cond_false]
          cases (decide (wv a0 a1 < 0) == decide (wv b0 b1 < 0)) <;> rfl
        · rfl
        · simp only [O, S, D, nr 3 (.inl rfl), Option.bind_some, beq_self_eq_true, cond_true, bif_not, Int.reduceBEq, cond_false]
          cases far (wv a0 a1) (wv b0 b1) 3 <;> cases (decide (wv a0 a1 < 0) == decide (wv b0 b1 < 0)) <;> rfl
        · simp only [O, S, D, nr 4 (.inr rfl), Option.bind_some, beq_self_eq_true, cond_true, bif_not, Int.reduceBEq, cond_false]
          cases far (wv a0 a1) (wv b0 b1) 4 <;> cases (decide (wv a0 a1 < 0) == decide (wv b0 b1 < 0)) <;> rfl
  · rw [if_neg hq, if_neg hq]
    rfl
end Go.Proofs.YtaalnjfmcjdimaaGreat.E
/-
  The reference's product, digit by digit, is the product. No condition beyond the words' own bounds.
-/
namespace Go.Proofs.YtaalnjfmcjdimaaGreat.E
open Go
set_option linter.unusedVariables false
set_option maxRecDepth 100000
theorem get_mid {α : Type} {pre r : List α} {x : α} {n : Nat} (h : pre.length = n) : (pre ++ x :: r)[n]? = some x := by subst h; simp
theorem set_mid {α : Type} {pre r : List α} {x y : α} {n : Nat} (h : pre.length = n) : (pre ++ x :: r).set n y = pre ++ y :: r := by subst h; simp
theorem dv_app (a b : List Int) : dv (a ++ b) = dv a + 65536 ^ a.length * dv b := by
  induction a with
  | nil => simp [dv]
  | cons x a ih =>
    simp only [List.cons_append, dv, List.length_cons, Int.pow_succ, ih]
    generalize (65536 : Int) ^ a.length = p
    generalize dv b = q
    rw [Int.mul_add, show p * 65536 * q = 65536 * (p * q) from by grind]
    omega
def madd : Int → Int → List Int → List Int → List Int × Int
  | c, x, p :: ps, y :: ys =>
    let v := IntKind.wrap .u64 (IntKind.wrap .u64 (c + p) + IntKind.wrap .u64 (x * y))
    let r := madd (IntKind.wrap .u64 (Int.tdiv v 65536)) x ps ys
    (Int.tmod v 65536 :: r.1, r.2)
  | c, _, _, _ => ([], c)
theorem digit_mul {x y : Int} (hx : D16 x) (hy : D16 y) : 0 ≤ x * y ∧ x * y ≤ 4294836225 := by
  unfold D16 at *
  refine ⟨Int.mul_nonneg hx.1 hy.1, ?_⟩
  have := Int.mul_le_mul hx.2 hy.2 hy.1 (by omega : (0 : Int) ≤ 65535)
  simpa using this
theorem madd_spec : ∀ (ps ys : List Int) (c x : Int), (∀ p ∈ ps, D16 p) → (∀ y ∈ ys, D16 y) → D16 x → ps.length = ys.length → D16 c →
    (madd c x ps ys).1.length = ps.length ∧ (∀ z ∈ (madd c x ps ys).1, D16 z) ∧ D16 (madd c x ps ys).2 ∧ dv (madd c x ps ys).1 + 65536 ^ ps.length * (madd c x ps ys).2 = c + dv ps + x * dv ys
  | [], [], c, x, _, _, _, _, hc => ⟨rfl, (fun z hz => by cases hz), hc, by simp [madd, dv]⟩
  | p :: ps, y :: ys, c, x, hp, hy, hx, hl, hc => by
    have hp0 := hp p (by simp)
    have hy0 := hy y (by simp)
    have hm := digit_mul hx hy0
    have e1 : IntKind.wrap .u64 (IntKind.wrap .u64 (c + p) + IntKind.wrap .u64 (x * y)) = c + p + x * y := by
      unfold D16 at *
      rw [wui (n := c + p) (by omega), wui (n := x * y) (by omega), wui (by omega)]
    have e2 : IntKind.wrap .u64 (Int.tdiv (c + p + x * y) 65536) = (c + p + x * y) / 65536 := by
      unfold D16 at *
      rw [tdiv_pos (by omega), wui (by omega)]
    obtain ⟨i1, i2, i3, i4⟩ := madd_spec ps ys ((c + p + x * y) / 65536) x (fun z hz => hp z (by simp [hz])) (fun z hz => hy z (by simp [hz])) hx (by simpa using hl) (by unfold D16 at *; omega)
    unfold madd
    simp only [e1, e2]
    rw [tmod_pos (by unfold D16 at *; omega)]
    refine ⟨by simp [i1], fun z hz => ?_, i3, ?_⟩
    · rcases List.mem_cons.1 hz with rfl | hz
      · unfold D16; omega
      · exact i2 z hz
    · simp only [dv, List.length_cons, Int.pow_succ]
      rw [Int.mul_add, show x * (65536 * dv ys) = 65536 * (x * dv ys) from by grind]
      generalize (65536 : Int) ^ ps.length = q at *
      generalize (madd ((c + p + x * y) / 65536) x ps ys).2 = k at *
      generalize dv (madd ((c + p + x * y) / 65536) x ps ys).1 = m at *
      rw [show q * 65536 * k = 65536 * (q * k) from by grind]
      generalize q * k = qk at *
      generalize x * dv ys = xd at *
      generalize x * y = xy at *
      omega
theorem mul_inner {za zb zt : Int × Int × Unit} {xs : List Int} {x : Int} {i : Nat} (hi : i ≤ 7) (hx : xs[i]? = some x) : ∀ (ys ps pre yp post : List Int) (j : Nat) (c : Int), ys.length = ps.length → pre.length = i + j → yp.length = j → j + ys.length = 8 →
    itr R30_2 (ys.length + 1) (za, zb, zt, xs, yp ++ ys, pre ++ (ps ++ post), (i : Int), c, (j : Int), ()) = some (za, zb, zt, xs, yp ++ ys, pre ++ ((madd c x ps ys).1 ++ post), (i : Int), (madd c x ps ys).2, ())
  | [], [], pre, yp, post, j, c, hl, hpre, hyp, hj => by
    obtain ⟨za0, za1, ⟨⟩⟩ := za
    obtain ⟨zb0, zb1, ⟨⟩⟩ := zb
    obtain ⟨zt0, zt1, ⟨⟩⟩ := zt
    have hj8 : j = 8 := by simpa using hj
    subst hj8
    refine itr_out ?_
    rfl
  | y :: ys, p :: ps, pre, yp, post, j, c, hl, hpre, hyp, hj => by
    obtain ⟨za0, za1, ⟨⟩⟩ := za
    obtain ⟨zb0, zb1, ⟨⟩⟩ := zb
    obtain ⟨zt0, zt1, ⟨⟩⟩ := zt
    simp only [List.length_cons] at hl hj
    have hstep : R30_2 ((za0, za1, ()), (zb0, zb1, ()), (zt0, zt1, ()), xs, yp ++ y :: ys, pre ++ (p :: ps ++ post), (i : Int), c, (j : Int), ()) =
        some (.inl ((za0, za1, ()), (zb0, zb1, ()), (zt0, zt1, ()), xs, yp ++ y :: ys, pre ++ (Int.tmod (IntKind.wrap .u64 (IntKind.wrap .u64 (c + p) + IntKind.wrap .u64 (x * y))) 65536 :: (ps ++ post)), (i : Int), IntKind.wrap .u64 (Int.tdiv (IntKind.wrap .u64 (IntKind.wrap .u64 (c + p) + IntKind.wrap .u64 (x * y))) 65536), ((j + 1 : Nat) : Int), ())) := by
      unfold R30_2 Q30_2
      simp only []
      have e : IntKind.wrap .i64 ((i : Int) + j) = ((i + j : Nat) : Int) := by rw [wsi (by omega)]; omega
      have e2 : IntKind.wrap .i64 ((j : Int) + 1) = ((j + 1 : Nat) : Int) := by rw [wsi (by omega)]; omega
      rw [e, e2, bif_t (decide_eq_true (by omega)), bif_t (show (decide ((0 : Int) ≤ ((i + j : Nat) : Int)) && decide (((i + j : Nat) : Int) < 17)) = true from by rw [decide_eq_true (by omega), decide_eq_true (by omega)]; rfl),
        bif_t (show (decide ((0 : Int) ≤ (i : Int)) && decide ((i : Int) < 8)) = true from by rw [decide_eq_true (by omega), decide_eq_true (by omega)]; rfl), bif_t (show (decide ((0 : Int) ≤ (j : Int)) && decide ((j : Int) < 8)) = true from by rw [decide_eq_true (by omega), decide_eq_true (by omega)]; rfl),
        bif_t (show Nat.blt (Int.toNat ((i + j : Nat) : Int)) 17 = true from by simp [Nat.blt]; omega)]
      simp only [Int.toNat_natCast, Option.bind_some]
      rw [List.cons_append, get_mid hpre, hx, get_mid hyp]
      simp only [Option.bind_some]
      rw [set_mid hpre]
    rw [List.length_cons, itr_in hstep]
    have := mul_inner (za := (za0, za1, ())) (zb := (zb0, zb1, ())) (zt := (zt0, zt1, ())) hi hx ys ps (pre ++ [Int.tmod (IntKind.wrap .u64 (IntKind.wrap .u64 (c + p) + IntKind.wrap .u64 (x * y))) 65536]) (yp ++ [y]) post (j + 1) (IntKind.wrap .u64 (Int.tdiv (IntKind.wrap .u64 (IntKind.wrap .u64 (c + p) + IntKind.wrap .u64 (x * y))) 65536)) (by omega) (by simp; omega) (by simp; omega) (by omega)
    simpa [madd] using this
def mulr : List Int → List Int → List Int → List Int
  | [], _, ps => ps
  | x :: xs, ys, ps =>
    match (madd 0 x ps ys).1 ++ [(madd 0 x ps ys).2] with
    | [] => []
    | d :: r => d :: mulr xs ys r
theorem mulr_spec : ∀ (xs ys ps : List Int), (∀ x ∈ xs, D16 x) → (∀ y ∈ ys, D16 y) → (∀ p ∈ ps, D16 p) → ps.length = ys.length →
    (mulr xs ys ps).length = xs.length + ps.length ∧ (∀ z ∈ mulr xs ys ps, D16 z) ∧ dv (mulr xs ys ps) = dv ps + dv xs * dv ys
  | [], ys, ps, _, _, hp, _ => ⟨by simp [mulr], by simpa [mulr] using hp, by simp [mulr, dv]⟩
  | x :: xs, ys, ps, hx, hy, hp, hl => by
    obtain ⟨i1, i2, i3, i4⟩ := madd_spec ps ys 0 x hp hy (hx x (by simp)) hl (by unfold D16; omega)
    unfold mulr
    have hd : dv ((madd 0 x ps ys).1 ++ [(madd 0 x ps ys).2]) = dv ps + x * dv ys := by
      rw [dv_app, i1]
      simp only [dv, Int.mul_zero, Int.add_zero]
      omega
    have hlen : ((madd 0 x ps ys).1 ++ [(madd 0 x ps ys).2]).length = ps.length + 1 := by simp [i1]
    have hall : ∀ z ∈ (madd 0 x ps ys).1 ++ [(madd 0 x ps ys).2], D16 z := by
      intro z hz
      rcases List.mem_append.1 hz with h | h
      · exact i2 z h
      · rw [List.mem_singleton.1 h]; exact i3
    generalize (madd 0 x ps ys).1 ++ [(madd 0 x ps ys).2] = l at *
    match l, hlen with
    | d :: r, hlen =>
      simp only [List.length_cons, Nat.add_right_cancel_iff] at hlen
      obtain ⟨k1, k2, k3⟩ := mulr_spec xs ys r (fun z hz => hx z (by simp [hz])) hy (fun z hz => hall z (by simp [hz])) (hlen.trans hl)
      refine ⟨by simp [k1, hlen]; omega, fun z hz => ?_, ?_⟩
      · rcases List.mem_cons.1 hz with rfl | hz
        · exact hall z (by simp)
        · exact k2 z hz
      · simp only [dv] at hd ⊢
        rw [k3]
        rw [Int.add_mul, show 65536 * dv xs * dv ys = 65536 * (dv xs * dv ys) from by grind]
        omega
theorem mul_outer {za zb zt : Int × Int × Unit} {ys : List Int} (hy : ys.length = 8) : ∀ (xs xp pre ps : List Int) (i : Nat), xp.length = i → pre.length = i → ps.length = 8 → i + xs.length = 8 →
    itr R30_0 (xs.length + 1) (za, zb, zt, xp ++ xs, ys, pre ++ (ps ++ List.replicate (xs.length + 1) 0), (i : Int), ()) = some (za, zb, zt, pre ++ (mulr xs ys ps ++ [0]), ())
  | [], xp, pre, ps, i, hxp, hpre, hps, hi => by
    obtain ⟨za0, za1, ⟨⟩⟩ := za
    obtain ⟨zb0, zb1, ⟨⟩⟩ := zb
    obtain ⟨zt0, zt1, ⟨⟩⟩ := zt
    have : i = 8 := by simpa using hi
    subst this
    exact itr_out rfl
  | x :: xs, xp, pre, ps, i, hxp, hpre, hps, hi => by
    obtain ⟨za0, za1, ⟨⟩⟩ := za
    obtain ⟨zb0, zb1, ⟨⟩⟩ := zb
    obtain ⟨zt0, zt1, ⟨⟩⟩ := zt
    simp only [List.length_cons] at hi
    have hin := mul_inner (za := (za0, za1, ())) (zb := (zb0, zb1, ())) (zt := (zt0, zt1, ())) (xs := xp ++ x :: xs) (x := x) (i := i) (by omega) (get_mid hxp) ys ps pre [] (0 :: List.replicate (xs.length + 1) 0) 0 0 (hy.trans hps.symm) hpre rfl (by omega)
    have hin := itrs_of hin (by omega)
    have hml : (madd 0 x ps ys).1.length = 8 := by
      have : ∀ (c : Int) (ps ys : List Int), ps.length = ys.length → (madd c x ps ys).1.length = ps.length := by
        intro c ps
        induction ps generalizing c with
        | nil => intro ys _; cases ys <;> rfl
        | cons p ps ih =>
          intro ys hl
          cases ys with
          | nil => cases hl
          | cons y ys => simp [madd, ih _ ys (by simpa using hl)]
      rw [this 0 ps ys (hps.trans hy.symm), hps]
    obtain ⟨d, r, hdr⟩ : ∃ d r, (madd 0 x ps ys).1 ++ [(madd 0 x ps ys).2] = d :: r := by
      cases h : (madd 0 x ps ys).1 with
      | nil => rw [h] at hml; cases hml
      | cons d r => exact ⟨d, _, rfl⟩
    have hr : r.length = 8 := by
      have := congrArg List.length hdr
      simp [hml] at this
      omega
    have hstep : R30_0 ((za0, za1, ()), (zb0, zb1, ()), (zt0, zt1, ()), xp ++ x :: xs, ys, pre ++ (ps ++ List.replicate (xs.length + 1 + 1) 0), (i : Int), ()) =
        some (.inl ((za0, za1, ()), (zb0, zb1, ()), (zt0, zt1, ()), xp ++ x :: xs, ys, pre ++ [d] ++ (r ++ List.replicate (xs.length + 1) 0), ((i + 1 : Nat) : Int), ())) := by
      unfold R30_0 Q30_0
      simp only []
      rw [bif_t (decide_eq_true (by omega)), List.replicate_succ]
      rw [show itrs R30_2 ((za0, za1, ()), (zb0, zb1, ()), (zt0, zt1, ()), xp ++ x :: xs, ys, pre ++ (ps ++ 0 :: List.replicate (xs.length + 1) 0), (i : Int), 0, 0, ()) = _ from hin]
      simp only [Option.bind_some]
      have e : IntKind.wrap .i64 ((i : Int) + 8) = ((i + 8 : Nat) : Int) := by rw [wsi (by omega)]; omega
      have e2 : IntKind.wrap .i64 ((i : Int) + 1) = ((i + 1 : Nat) : Int) := by rw [wsi (by omega)]; omega
      rw [e, e2, bif_t (show (decide ((0 : Int) ≤ ((i + 8 : Nat) : Int)) && decide (((i + 8 : Nat) : Int) < 17)) = true from by rw [decide_eq_true (by omega), decide_eq_true (by omega)]; rfl), bif_t (show Nat.blt (Int.toNat ((i + 8 : Nat) : Int)) 17 = true from by simp [Nat.blt]; omega)]
      simp only [Int.toNat_natCast, Option.bind_some]
      rw [← List.append_assoc, set_mid (show (pre ++ (madd 0 x ps ys).1).length = i + 8 from by simp [hml, hpre])]
      have : pre ++ (madd 0 x ps ys).1 ++ (madd 0 x ps ys).2 :: List.replicate (xs.length + 1) 0 = pre ++ [d] ++ (r ++ List.replicate (xs.length + 1) 0) := by
        rw [show pre ++ (madd 0 x ps ys).1 ++ (madd 0 x ps ys).2 :: List.replicate (xs.length + 1) 0 = pre ++ ((madd 0 x ps ys).1 ++ [(madd 0 x ps ys).2] ++ List.replicate (xs.length + 1) 0) from by simp, hdr]
        simp
      rw [this]
      rfl
    rw [List.length_cons, itr_in hstep]
    have := mul_outer (za := (za0, za1, ())) (zb := (zb0, zb1, ())) (zt := (zt0, zt1, ())) hy xs (xp ++ [x]) (pre ++ [d]) r (i + 1) (by simp [hxp]) (by simp [hpre]) hr (by omega)
    rw [show xp ++ x :: xs = xp ++ [x] ++ xs from by simp, this]
    simp [mulr, hdr]
theorem mul_zeros {za zb zt : Int × Int × Unit} : ∀ (rest pre : List Int) (i : Nat), pre.length = i → i + rest.length = 17 →
    itr R30_4 (rest.length + 1) (za, zb, zt, pre ++ rest, (i : Int), ()) = some (if ∀ x ∈ rest, x = 0 then .inl (za, zb, zt, pre ++ rest, ()) else .inr ((0, 0, ()), 10, ()))
  | [], pre, i, hpre, hi => by
    obtain ⟨za0, za1, ⟨⟩⟩ := za
    obtain ⟨zb0, zb1, ⟨⟩⟩ := zb
    obtain ⟨zt0, zt1, ⟨⟩⟩ := zt
    have : i = 17 := by simpa using hi
    subst this
    rw [if_pos (fun x h => by cases h)]
    exact itr_out rfl
  | x :: rest, pre, i, hpre, hi => by
    obtain ⟨za0, za1, ⟨⟩⟩ := za
    obtain ⟨zb0, zb1, ⟨⟩⟩ := zb
    obtain ⟨zt0, zt1, ⟨⟩⟩ := zt
    simp only [List.length_cons] at hi
    have hstep : R30_4 ((za0, za1, ()), (zb0, zb1, ()), (zt0, zt1, ()), pre ++ x :: rest, (i : Int), ()) = bif x != 0 then some (.inr (.inr ((0, 0, ()), 10, ()))) else some (.inl ((za0, za1, ()), (zb0, zb1, ()), (zt0, zt1, ()), pre ++ [x] ++ rest, ((i + 1 : Nat) : Int), ())) := by
      unfold R30_4 Q30_4
      simp only []
      have e2 : IntKind.wrap .i64 ((i : Int) + 1) = ((i + 1 : Nat) : Int) := by rw [wsi (by omega)]; omega
      rw [e2, bif_t (decide_eq_true (by omega)), bif_t (show (decide ((0 : Int) ≤ (i : Int)) && decide ((i : Int) < 17)) = true from by rw [decide_eq_true (by omega), decide_eq_true (by omega)]; rfl)]
      simp only [Int.toNat_natCast, Option.bind_some]
      rw [get_mid hpre]
      simp only [Option.bind_some]
      rw [show pre ++ [x] ++ rest = pre ++ x :: rest from by simp]
    rw [List.length_cons, itr_bif hstep, bif_ne]
    by_cases hx : x = 0
    · rw [if_pos hx, mul_zeros rest (pre ++ [x]) (i + 1) (by simp [hpre]) (by omega)]
      subst hx
      simp
    · rw [if_neg hx, if_neg (fun h => hx (h x (by simp)))]
theorem dv_zero : ∀ (l : List Int), (∀ x ∈ l, D16 x) → 0 ≤ dv l ∧ ((∀ x ∈ l, x = 0) ↔ dv l = 0)
  | [], _ => by simp [dv]
  | x :: l, h => by
    obtain ⟨i1, i2⟩ := dv_zero l fun z hz => h z (by simp [hz])
    have hx := h x (by simp)
    unfold D16 at hx
    simp only [dv]
    refine ⟨by omega, ?_⟩
    constructor
    · intro k
      have := k x (by simp)
      have := i2.1 fun z hz => k z (by simp [hz])
      omega
    · intro k z hz
      rcases List.mem_cons.1 hz with rfl | hz
      · omega
      · exact i2.2 (by omega) z hz
theorem rdigits {hi lo : Int} (h1 : 0 ≤ hi ∧ hi ≤ 18446744073709551615) (h2 : 0 ≤ lo ∧ lo ≤ 18446744073709551615) : ∃ d, N68 (hi, lo, ()) = some (d, ()) ∧ d.length = 8 ∧ (∀ x ∈ d, D16 x) ∧ dv d = hi * 18446744073709551616 + lo := by
  have L0 : itrs R68_0 (hi, lo, List.replicate 8 0, List.replicate 8 0, 0, ()) = some (List.replicate 8 0, [Int.tmod (Int.fdiv lo (2 ^ 0)) 65536, Int.tmod (Int.fdiv lo (2 ^ 16)) 65536, Int.tmod (Int.fdiv lo (2 ^ 32)) 65536, Int.tmod (Int.fdiv lo (2 ^ 48)) 65536, Int.tmod (Int.fdiv hi (2 ^ 0)) 65536, Int.tmod (Int.fdiv hi (2 ^ 16)) 65536, Int.tmod (Int.fdiv hi (2 ^ 32)) 65536, Int.tmod (Int.fdiv hi (2 ^ 48)) 65536], ()) := itrs_of (n := 5) (by kernel_rfl) (by omega)
  unfold N68 M68
  simp only [L0, Option.bind_some]
  rw [sh_0, sh_16, sh_32, sh_48, sh_0, sh_16, sh_32, sh_48]
  rw [tmod_pos (by omega), tmod_pos (by omega), tmod_pos (by omega), tmod_pos (by omega), tmod_pos (by omega), tmod_pos (by omega), tmod_pos (by omega), tmod_pos (by omega)]
  refine ⟨_, rfl, rfl, ?_, ?_⟩
  · simp only [List.mem_cons, List.not_mem_nil, or_false, forall_eq_or_imp, forall_eq, D16]
    omega
  · simp only [dv]
    omega
theorem rMul {a0 a1 b0 b1 : Int} (ha : WB a0 a1) (hb : WB b0 b1) : N30 ((a0, a1), (b0, b1), ()) = some (wans (wv a0 a1 * wv b0 b1)) := by
  have hs := sign_mul (a := wv a0 a1) (b := wv b0 b1) (p := decide (a0 < 0)) (q := decide (b0 < 0)) (by unfold WB at ha; unfold wv; simp; omega) (by unfold WB at hb; unfold wv; simp; omega)
  have hm := wabs_mul (wv a0 a1) (wv b0 b1)
  have hA := wabs_in ha
  have hB := wabs_in hb
  obtain ⟨x, x1, x2, x3, x4⟩ := rdigits (hi := wabs (wv a0 a1) / 18446744073709551616) (lo := wabs (wv a0 a1) % 18446744073709551616) (by omega) (by omega)
  obtain ⟨y, y1, y2, y3, y4⟩ := rdigits (hi := wabs (wv b0 b1) / 18446744073709551616) (lo := wabs (wv b0 b1) % 18446744073709551616) (by omega) (by omega)
  have x4 : dv x = wabs (wv a0 a1) := by omega
  have y4 : dv y = wabs (wv b0 b1) := by omega
  have O := itrs_of (mul_outer (za := (a0, a1, ())) (zb := (b0, b1, ())) (zt := (0, 0, ())) y2 x [] [] (List.replicate 8 0) 0 rfl rfl rfl (by omega)) (by omega)
  obtain ⟨m1, m2, m3⟩ := mulr_spec x y (List.replicate 8 0) x3 y3 (by simp [D16]) (by simp [y2])
  rw [x4, y4, show dv (List.replicate 8 0) = 0 from by decide, Int.zero_add, ← hm] at m3
  rw [x2] at m1 O
  have m1 : (mulr x y (List.replicate 8 0)).length = 16 := m1
  rw [show ([] : List Int) ++ (List.replicate 8 0 ++ List.replicate (8 + 1) 0) = List.replicate 17 0 from rfl, List.nil_append, List.nil_append, show ((0 : Nat) : Int) = 0 from rfl] at O
  unfold N30 M30
  simp only []
  rw [rAbs ha]
  simp only [Option.bind_some, x1]
  rw [rAbs hb]
  simp only [Option.bind_some, y1]
  rw [O]
  simp only [Option.bind_some]
  generalize mulr x y (List.replicate 8 0) = p at *
  match p, m1 with
  | d0 :: d1 :: d2 :: d3 :: d4 :: d5 :: d6 :: d7 :: rest, m1 =>
    have hlen : rest.length = 8 := by simpa using m1
    have Zs := itrs_of (mul_zeros (za := (a0, a1, ())) (zb := (b0, b1, ())) (zt := (0, 0, ())) (rest ++ [0]) [d0, d1, d2, d3, d4, d5, d6, d7] 8 rfl (by simp [hlen])) (by simp [hlen])
    rw [show [d0, d1, d2, d3, d4, d5, d6, d7] ++ (rest ++ [0]) = d0 :: d1 :: d2 :: d3 :: d4 :: d5 :: d6 :: d7 :: rest ++ [0] from rfl] at Zs
    rw [show ((8 : Nat) : Int) = 8 from rfl] at Zs
    rw [Zs]
    simp only [Option.bind_some]
    have hd : ∀ z ∈ rest ++ [0], D16 z := by
      intro z hz
      rcases List.mem_append.1 hz with h | h
      · exact m2 z (by simp [h])
      · rw [List.mem_singleton.1 h]; unfold D16; omega
    obtain ⟨z1, z2⟩ := dv_zero (rest ++ [0]) hd
    have hdv : dv (rest ++ [0]) = dv rest := by rw [dv_app]; simp [dv]
    rw [hdv] at z1 z2
    have g : D16 d0 ∧ D16 d1 ∧ D16 d2 ∧ D16 d3 ∧ D16 d4 ∧ D16 d5 ∧ D16 d6 ∧ D16 d7 := ⟨m2 _ (by simp), m2 _ (by simp), m2 _ (by simp), m2 _ (by simp), m2 _ (by simp), m2 _ (by simp), m2 _ (by simp), m2 _ (by simp)⟩
    obtain ⟨g0, g1, g2, g3, g4, g5, g6, g7⟩ := g
    simp only [dv] at m3
    by_cases hz : ∀ z ∈ rest ++ [0], z = 0
    · have h0 := z2.1 hz
      rw [if_pos hz]
      simp only []
      have L6 : ∀ t, itrs R30_6 ((a0, a1, ()), (b0, b1, ()), (0, 0, ()), d0 :: d1 :: d2 :: d3 :: d4 :: d5 :: d6 :: d7 :: t, 0, 0, 3, ()) = some ((a0, a1, ()), (b0, b1, ()), (0, 0, ()), IntKind.wrap .u64 (IntKind.wrap .u64 (IntKind.wrap .u64 (IntKind.wrap .u64 (IntKind.wrap .u64 (IntKind.wrap .u64 (IntKind.wrap .u64 (IntKind.wrap .u64 (0 * 65536) + d7) * 65536) + d6) * 65536) + d5) * 65536) + d4), IntKind.wrap .u64 (IntKind.wrap .u64 (IntKind.wrap .u64 (IntKind.wrap .u64 (IntKind.wrap .u64 (IntKind.wrap .u64 (IntKind.wrap .u64 (IntKind.wrap .u64 (0 * 65536) + d3) * 65536) + d2) * 65536) + d1) * 65536) + d0), ()) := fun t => itrs_of (n := 5) (by kernel_rfl) (by omega)
      rw [List.cons_append, List.cons_append, List.cons_append, List.cons_append, List.cons_append, List.cons_append, List.cons_append, List.cons_append, L6, horner g0 g1 g2 g3, horner g4 g5 g6 g7]
      simp only [Option.bind_some]
      unfold D16 at *
      rw [rJoin _ (by omega) (by omega)]
      simp only [Option.bind_some]
      rw [← hm] at hs
      rw [show (d4 + 65536 * (d5 + 65536 * (d6 + 65536 * d7))) * 18446744073709551616 + (d0 + 65536 * (d1 + 65536 * (d2 + 65536 * d3))) = wabs (wv a0 a1 * wv b0 b1) from by omega, hs]
    · rw [if_neg hz]
      have h0 : ¬ dv rest = 0 := fun h => hz (z2.2 h)
      simp only []
      unfold D16 at *
      rw [wans_past (by omega)]
end Go.Proofs.YtaalnjfmcjdimaaGreat.E
/-
  The reference's signs and comparisons. No condition beyond the words' own bounds.
-/
namespace Go.Proofs.YtaalnjfmcjdimaaGreat.E
open Go
set_option linter.unusedVariables false
set_option maxRecDepth 100000
theorem rBelow {l : List Int} {V : Int} (h : Long l V) : N99 (l, ()) = some (decide (V ≥ 3138550867693340381917894711603833208051177722232017256448), ()) := by
  obtain ⟨d0, d1, d2, d3, d4, d5, d6, d7, d8, d9, d10, d11, rfl, k0, k1, k2, k3, k4, k5, k6, k7, k8, k9, k10, k11, e⟩ := h.open
  unfold N99 M99
  show some (decide (d11 ≥ 32768), ()) = _
  rw [show decide (d11 ≥ 32768) = decide (V ≥ 3138550867693340381917894711603833208051177722232017256448) from by
    rw [decide_eq_decide]
    unfold D16 at *
    omega]
theorem Long_zero {l : List Int} {V : Int} (h : Long l V) : (l == [0, 0, 0, 0, 0, 0, 0, 0, 0, 0, 0, 0]) = decide (V = 0) := by
  obtain ⟨d0, d1, d2, d3, d4, d5, d6, d7, d8, d9, d10, d11, rfl, k0, k1, k2, k3, k4, k5, k6, k7, k8, k9, k10, k11, e⟩ := h.open
  unfold D16 at *
  rw [Bool.eq_iff_iff, beq_iff_eq, decide_eq_true_eq]
  constructor
  · intro he
    simp only [List.cons.injEq] at he
    omega
  · intro he
    simp only [List.cons.injEq, and_true]
    omega
theorem rSign {h l : Int} (b : WB h l) : N75 ((h, l), ()) = some (cmpv (wv h l) 0, ()) := by
  obtain ⟨d, k1, k2⟩ := rDigits b
  have hb := rBelow k2
  have h1 := wv_in b
  unfold N75 M75 cmpv
  simp only [k1, hb, Option.bind_some]
  rw [show decide (long (wv h l) ≥ 3138550867693340381917894711603833208051177722232017256448) = decide (wv h l < 0) from by rw [decide_eq_decide]; unfold long; omega]
  simp only [bif_p, bif_eq]
  unfold WB at b
  unfold wv
  (repeat' split) <;> first | rfl | (exfalso; omega)
theorem rCmp {a0 a1 b0 b1 : Int} (ha : WB a0 a1) (hb : WB b0 b1) : N74 ((a0, a1), (b0, b1), ()) = some (cmpv (wv a0 a1) (wv b0 b1), ()) := by
  obtain ⟨l, k1, k2⟩ := rDigits ha
  obtain ⟨m, j1, j2⟩ := rDigits hb
  obtain ⟨m', t1, t2⟩ := rTurned j2
  obtain ⟨n, i1, i2⟩ := rPlus k2 t2
  have h1 := wv_in ha
  have h2 := wv_in hb
  have hB := rBelow i2
  have hZ := Long_zero i2
  unfold N74 M74 cmpv
  simp only [k1, j1, t1, i1, hB, hZ, Option.bind_some]
  simp only [bif_p]
  unfold long
  (repeat' split) <;> first | rfl | (exfalso; omega)
end Go.Proofs.YtaalnjfmcjdimaaGreat.E
/-
  The document's machine: what its parts do. No condition but the words' own bounds and the lists' lengths.
-/
namespace Go.Proofs.YtaalnjfmcjdimaaGreat.E
open Go
set_option linter.unusedVariables false
set_option linter.unusedSimpArgs false
set_option maxRecDepth 100000
section
variable (p : VPrg) (q : List Int) (u : Wd) (l : List Wd) (a s : Int) (o : Bool)
theorem rMSum {x y : Wd} (hx : WB x.1 x.2) (hy : WB y.1 y.2) : N71 (mc p q u l a s o, x, y, ()) = some ((ck (wp_ x + wp_ y) o).1, mc p q u l a s (ck (wp_ x + wp_ y) o).2, ()) := by
  have e := rAdd hx hy
  unfold N71 M71 mc ck ov wp_
  obtain ⟨p0, p1, p2, p3, p4, p5⟩ := p
  obtain ⟨u0, u1⟩ := u
  obtain ⟨x0, x1⟩ := x
  obtain ⟨y0, y1⟩ := y
  generalize wans (wv (x0, x1).1 (x0, x1).2 + wv (y0, y1).1 (y0, y1).2) = z at *
  obtain ⟨⟨z0, z1⟩, z2, ⟨⟩⟩ := z
  simp only [] at e ⊢
  rw [e]
  cases o <;> rfl
theorem rMLess {x y : Wd} (hx : WB x.1 x.2) (hy : WB y.1 y.2) : N72 (mc p q u l a s o, x, y, ()) = some ((ck (wp_ x - wp_ y) o).1, mc p q u l a s (ck (wp_ x - wp_ y) o).2, ()) := by
  have e := rSub hx hy
  unfold N72 M72 mc ck ov wp_
  obtain ⟨p0, p1, p2, p3, p4, p5⟩ := p
  obtain ⟨u0, u1⟩ := u
  obtain ⟨x0, x1⟩ := x
  obtain ⟨y0, y1⟩ := y
  generalize wans (wv (x0, x1).1 (x0, x1).2 - wv (y0, y1).1 (y0, y1).2) = z at *
  obtain ⟨⟨z0, z1⟩, z2, ⟨⟩⟩ := z
  simp only [] at e ⊢
  rw [e]
  cases o <;> rfl
theorem rMBy {x y : Wd} (hx : WB x.1 x.2) (hy : WB y.1 y.2) : N73 (mc p q u l a s o, x, y, ()) = some ((ck (wp_ x * wp_ y) o).1, mc p q u l a s (ck (wp_ x * wp_ y) o).2, ()) := by
  have e := rMul hx hy
  unfold N73 M73 mc ck ov wp_
  obtain ⟨p0, p1, p2, p3, p4, p5⟩ := p
  obtain ⟨u0, u1⟩ := u
  obtain ⟨x0, x1⟩ := x
  obtain ⟨y0, y1⟩ := y
  generalize wans (wv (x0, x1).1 (x0, x1).2 * wv (y0, y1).1 (y0, y1).2) = z at *
  obtain ⟨⟨z0, z1⟩, z2, ⟨⟩⟩ := z
  simp only [] at e ⊢
  rw [e]
  cases o <;> rfl
theorem rHolds {x c : Wd} {op : Int} (hx : WB x.1 x.2) (hc : WB c.1 c.2) : N33 (x, c, op, ()) = some (holdsV (cmpv (wp_ x) (wp_ c)) op, ()) := by
  have e := rCmp hx hc
  unfold N33 M33 holdsV wp_
  obtain ⟨x0, x1⟩ := x
  obtain ⟨c0, c1⟩ := c
  simp only [] at e ⊢
  rw [e]
  simp only [Option.bind_some, bif_eq]
  repeat' split
  all_goals rfl
theorem rTier_loop {L : List Tr} (hl : Tiers L) {x0 x1 : Int} (hx : WB x0 x1) : itrs R103_0 (L, (x0, x1, ()), -1, 0, ()) = some (tierV L (wv x0 x1) L.length, ()) := by
  refine itrs_seq (fun j => (L, (x0, x1, ()), tierV L (wv x0 x1) j, (j : Int), ())) L.length rfl (fun j hj => ?_) ?_ (by have := hl.n; omega)
  · obtain ⟨e1, e2, e3⟩ := hl.at hj
    have hg := at_get hj
    have h2 := rOf e2
    have h3 := rCmp (WB_of e2) hx
    rw [wv_of] at h3
    have hn := hl.n
    have hc := cmpv_cases (from_ L j) (wv x0 x1)
    unfold R103_0 Q103_0
    simp only []
    rw [bif_t (c := decide ((j : Int) < (L.length : Int))) (decide_eq_true (by omega)), hg, e1]
    simp only [Option.bind_some]
    rw [h2]
    simp only [Option.bind_some]
    rw [h3]
    simp only [Option.bind_some]
    rw [bif_p, wsi (n := (j : Int) + 1) (by omega), tierV]
    split <;> split <;> first | rfl | (exfalso; omega)
  · unfold R103_0 Q103_0
    simp only []
    rw [bif_f (c := decide ((L.length : Int) < (L.length : Int))) (decide_eq_false (by omega))]
theorem rTierN {L : List Tr} (hl : Tiers L) {x : Wd} (hx : WB x.1 x.2) : N103 (L, x, ()) = some (tierV L (wp_ x) L.length, ()) := by
  have h := rTier_loop hl hx
  obtain ⟨x0, x1⟩ := x
  unfold N103 M103
  simp only []
  rw [h]
  rfl
theorem rTwo {y x : Wd} {op : Int} (ho : 5 ≤ op ∧ op ≤ 9) (hx : WB x.1 x.2) (hy : WB y.1 y.2) :
    N32 (mc p q u l a s o, op, y, x, ()) = some ((if op = 5 then ck (wp_ y + wp_ x) o else if op = 6 then ck (wp_ y - wp_ x) o else if op = 7 then ck (wp_ y * wp_ x) o else if op = 8 then (bif decide (cmpv (wp_ x) (wp_ y) < 0) then x else y, o) else (bif decide (cmpv (wp_ x) (wp_ y) > 0) then x else y, o)).1,
      mc p q u l a s (if op = 5 then ck (wp_ y + wp_ x) o else if op = 6 then ck (wp_ y - wp_ x) o else if op = 7 then ck (wp_ y * wp_ x) o else if op = 8 then (bif decide (cmpv (wp_ x) (wp_ y) < 0) then x else y, o) else (bif decide (cmpv (wp_ x) (wp_ y) > 0) then x else y, o)).2, ()) := by
  have e1 := rMSum p q u l a s o hy hx
  have e2 := rMLess p q u l a s o hy hx
  have e3 := rMBy p q u l a s o hy hx
  have e4 := rCmp hx hy
  unfold N32 M32
  have hop : op = 5 ∨ op = 6 ∨ op = 7 ∨ op = 8 ∨ op = 9 := by omega
  generalize ck (wp_ y + wp_ x) o = A at *
  generalize ck (wp_ y - wp_ x) o = B at *
  generalize ck (wp_ y * wp_ x) o = C at *
  obtain ⟨p0, p1, p2, p3, p4, p5⟩ := p
  obtain ⟨u0, u1⟩ := u
  obtain ⟨⟨A0, A1⟩, A2⟩ := A
  obtain ⟨⟨B0, B1⟩, B2⟩ := B
  obtain ⟨⟨C0, C1⟩, C2⟩ := C
  obtain ⟨x0, x1⟩ := x
  obtain ⟨y0, y1⟩ := y
  unfold mc wp_ at *
  simp only [] at *
  rcases hop with rfl | rfl | rfl | rfl | rfl
  · rw [bif_t (c := (5 : Int) == 5) rfl, e1]; rfl
  · rw [bif_f (c := (6 : Int) == 5) rfl, bif_t (c := (6 : Int) == 6) rfl, e2]; rfl
  · rw [bif_f (c := (7 : Int) == 5) rfl, bif_f (c := (7 : Int) == 6) rfl, bif_t (c := (7 : Int) == 7) rfl, e3]; rfl
  · rw [bif_f (c := (8 : Int) == 5) rfl, bif_f (c := (8 : Int) == 6) rfl, bif_f (c := (8 : Int) == 7) rfl, e4]
    simp only [Option.bind_some]
    cases decide (cmpv (wv x0 x1) (wv y0 y1) < 0) <;> rfl
  · rw [bif_f (c := (9 : Int) == 5) rfl, bif_f (c := (9 : Int) == 6) rfl, bif_f (c := (9 : Int) == 7) rfl, e4]
    simp only [Option.bind_some]
    cases decide (cmpv (wv x0 x1) (wv y0 y1) > 0) <;> rfl
end
end Go.Proofs.YtaalnjfmcjdimaaGreat.E
/-
  The document's machine: prices by tiers, and what one thing becomes. No condition but the words' own bounds and the lists' lengths.
-/
namespace Go.Proofs.YtaalnjfmcjdimaaGreat.E
open Go
set_option linter.unusedVariables false
set_option linter.unusedSimpArgs false
set_option maxRecDepth 100000
section
variable (p : VPrg) (q : List Int) (u : Wd) (l : List Wd) (a s : Int) (o : Bool)
theorem rGrad_loop {L : List Tr} (ht : Tiers L) {x z rr : Int × Int × Unit} {K : Nat} (hK : K < L.length) : ∀ (n i : Nat), i + n = K →
    itr R76_0 (n + 1) (mc p q u l a s (gsum L o i).2, L, x, z, (K : Int), rr, ((gsum L o i).1.1, (gsum L o i).1.2, ()), (i : Int), ()) = some (mc p q u l a s (gsum L o K).2, L, x, z, (K : Int), rr, ((gsum L o K).1.1, (gsum L o K).1.2, ()), ())
  | 0, i, h => by
    obtain rfl : i = K := by omega
    refine itr_out ?_
    obtain ⟨p0, p1, p2, p3, p4, p5⟩ := p
    obtain ⟨u0, u1⟩ := u
    obtain ⟨x0, x1, ⟨⟩⟩ := x
    obtain ⟨z0, z1, ⟨⟩⟩ := z
    obtain ⟨r0, r1, ⟨⟩⟩ := rr
    unfold mc R76_0 Q76_0
    simp only []
    rw [bif_f (c := decide ((i : Int) < (i : Int))) (decide_eq_false (by omega))]
  | n + 1, i, h => by
    have ih := rGrad_loop ht (x := x) (z := z) (rr := rr) hK n (i + 1) (by omega)
    rw [itr_in (x' := (mc p q u l a s (gsum L o (i + 1)).2, L, x, z, (K : Int), rr, ((gsum L o (i + 1)).1.1, (gsum L o (i + 1)).1.2, ()), ((i + 1 : Nat) : Int), ()))]
    · exact ih
    · have hn := ht.n
      obtain ⟨f1, f2, f3⟩ := ht.at (show i < L.length by omega)
      obtain ⟨g1, g2, g3⟩ := ht.at (show i + 1 < L.length by omega)
      have hg := at_get (show i < L.length by omega)
      have hg2 := at_get (show i + 1 < L.length by omega)
      have hw : -9223372036854775808 ≤ IntKind.wrap .i64 (from_ L (i + 1) - from_ L i) ∧ IntKind.wrap .i64 (from_ L (i + 1) - from_ L i) ≤ 9223372036854775807 := by rw [ws]; omega
      have e4 := rOf f3
      have e5 := rOf hw
      generalize hG : gsum L o i = G at *
      have e6 := rMBy p q u l a s G.2 (x := ofV (rate_ L i)) (y := ofV (IntKind.wrap .i64 (from_ L (i + 1) - from_ L i))) (WB_of f3) (WB_of hw)
      rw [wp_of, wp_of] at e6
      have b7 := ck_WB (rate_ L i * IntKind.wrap .i64 (from_ L (i + 1) - from_ L i)) G.2
      have hGb : WB G.1.1 G.1.2 := by
        rw [← hG]
        cases i with
        | zero => exact WB_zero
        | succ i => exact ck_WB _ _
      have hS : gsum L o (i + 1) = ck (wp_ G.1 + wp_ (ck (rate_ L i * IntKind.wrap .i64 (from_ L (i + 1) - from_ L i)) G.2).1) (ck (rate_ L i * IntKind.wrap .i64 (from_ L (i + 1) - from_ L i)) G.2).2 := by
        rw [gsum, hG]
      rw [hS]
      unfold ofV at e6
      generalize rate_ L i * IntKind.wrap .i64 (from_ L (i + 1) - from_ L i) = v at *
      generalize hC : ck v G.2 = C at *
      have e8 := rMSum p q u l a s C.2 hGb b7
      generalize hD : ck (wp_ G.1 + wp_ C.1) C.2 = D at *
      rw [f1] at hg
      rw [g1] at hg2
      generalize rate_ L i = rt at *
      generalize from_ L i = fr at *
      generalize rate_ L (i + 1) = rt2 at *
      generalize from_ L (i + 1) = fr2 at *
      obtain ⟨p0, p1, p2, p3, p4, p5⟩ := p
      obtain ⟨u0, u1⟩ := u
      obtain ⟨x0, x1, ⟨⟩⟩ := x
      obtain ⟨z0, z1, ⟨⟩⟩ := z
      obtain ⟨r0, r1, ⟨⟩⟩ := rr
      obtain ⟨⟨C0, C1⟩, C2⟩ := C
      obtain ⟨⟨D0, D1⟩, D2⟩ := D
      obtain ⟨⟨G0, G1⟩, G2⟩ := G
      unfold mc R76_0 Q76_0 at *
      simp only [] at *
      rw [bif_t (c := decide ((i : Int) < (K : Int))) (decide_eq_true (by omega)), wsi (n := (i : Int) + 1) (by omega), show (i : Int) + 1 = ((i + 1 : Nat) : Int) by omega, hg]
      simp only [Option.bind_some]
      rw [e4]
      simp only [Option.bind_some]
      rw [hg2]
      simp only [Option.bind_some]
      rw [e5]
      simp only [Option.bind_some]
      rw [e6]
      simp only [Option.bind_some]
      rw [e8]
      rfl
theorem gsum_WB (L : List Tr) (o : Bool) (K : Nat) : WB (gsum L o K).1.1 (gsum L o K).1.2 := by
  cases K with
  | zero => exact WB_zero
  | succ i => exact ck_WB _ _
theorem rCharge {L : List Tr} (ht : Tiers L) {x : Wd} {op : Int} (ho : op = 12 ∨ op = 13) (hx : WB x.1 x.2) (hu : WB u.1 u.2) :
    N76 (mc p q u l a s o, op, L, x, ()) = some ((if op = 12 then gradV L x u o else volV L x u o).1, mc p q u l a s (if op = 12 then gradV L x u o else volV L x u o).2, ()) := by
  have e2 := rTierN ht hx
  have ht2 := tierV_lt L (wp_ x) L.length
  unfold N76 M76
  unfold gradV volV
  by_cases hneg : tierV L (wp_ x) L.length < 0
  · rw [if_pos hneg, if_pos hneg]
    generalize tierV L (wp_ x) L.length = K at *
    obtain ⟨p0, p1, p2, p3, p4, p5⟩ := p
    obtain ⟨u0, u1⟩ := u
    obtain ⟨x0, x1⟩ := x
    unfold mc at *
    simp only [ite_self] at *
    rw [e2]
    simp only [Option.bind_some]
    rw [decide_eq_true hneg, cond_true]
  · rw [if_neg hneg, if_neg hneg]
    obtain ⟨K, hK⟩ : ∃ K : Nat, tierV L (wp_ x) L.length = (K : Int) := ⟨(tierV L (wp_ x) L.length).toNat, by omega⟩
    rw [hK] at e2 ht2 hneg ⊢
    have hKl : K < L.length := by omega
    have hn := ht.n
    obtain ⟨f1, f2, f3⟩ := ht.at hKl
    have hg2 := at_get hKl
    have e4 := rOf f3
    rw [Int.toNat_natCast]
    rcases ho with rfl | rfl
    · rw [if_pos rfl]
      have lp := itrs_eq (rGrad_loop p q u l a s o ht (x := (x.1, x.2, ())) (z := (0, 0, ())) (rr := (rate_ L K / 18446744073709551616, rate_ L K % 18446744073709551616, ())) hKl K 0 (by omega)) rfl (by omega)
      have e5 := rOf f2
      have hGb := gsum_WB L o K
      rw [show gsum L o 0 = ((0, 0), o) from rfl, show ((0 : Nat) : Int) = 0 from rfl] at lp
      unfold gradK
      generalize gsum L o K = G at *
      have e6 := rMLess p q u l a s G.2 (y := ofV (from_ L K)) hx (WB_of f2)
      rw [wp_of] at e6
      have b7 := ck_WB (wp_ x - from_ L K) G.2
      simp only []
      generalize hd : ck (wp_ x - from_ L K) G.2 = d at *
      have e8 := rMBy p q u l a s d.2 (x := ofV (rate_ L K)) (WB_of f3) b7
      rw [wp_of] at e8
      have b9 := ck_WB (rate_ L K * wp_ d.1) d.2
      generalize hr : ck (rate_ L K * wp_ d.1) d.2 = r at *
      have e10 := rMSum p q u l a s r.2 hGb b9
      rw [Int.add_comm] at e10
      have b11 := ck_WB (wp_ r.1 + wp_ G.1) r.2
      generalize ht : ck (wp_ r.1 + wp_ G.1) r.2 = t at *
      have e12 := rMBy p q u l a s t.2 b11 hu
      generalize hV : ck (wp_ t.1 * wp_ u) t.2 = V at *
      unfold ofV at *
      rw [f1] at hg2
      generalize rate_ L K = rt at *
      generalize from_ L K = fr at *
      obtain ⟨p0, p1, p2, p3, p4, p5⟩ := p
      obtain ⟨u0, u1⟩ := u
      obtain ⟨x0, x1⟩ := x
      obtain ⟨⟨d0, d1⟩, d2⟩ := d
      obtain ⟨⟨r0, r1⟩, r2⟩ := r
      obtain ⟨⟨t0, t1⟩, t2⟩ := t
      obtain ⟨⟨V0, V1⟩, V2⟩ := V
      obtain ⟨⟨G0, G1⟩, G2⟩ := G
      unfold mc at *
      simp only [] at *
      rw [e2]
      simp only [Option.bind_some]
      rw [decide_eq_false (by omega), cond_false, hg2]
      simp only [Option.bind_some]
      rw [e4]
      simp only [Option.bind_some]
      rw [bif_f (c := (12 : Int) == 13) rfl, lp]
      simp only [Option.bind_some]
      rw [hg2]
      simp only [Option.bind_some]
      rw [e5]
      simp only [Option.bind_some]
      rw [e6]
      simp only [Option.bind_some]
      rw [e8]
      simp only [Option.bind_some]
      rw [e10]
      simp only [Option.bind_some]
      rw [e12]
      rfl
    · rw [if_neg (by decide)]
      unfold volK
      have e6 := rMBy p q u l a s o (y := ofV (rate_ L K)) hx (WB_of f3)
      rw [wp_of] at e6
      have b6 := ck_WB (wp_ x * rate_ L K) o
      generalize hC : ck (wp_ x * rate_ L K) o = C at *
      have e7 := rMBy p q u l a s C.2 b6 hu
      generalize hV : ck (wp_ C.1 * wp_ u) C.2 = V at *
      unfold ofV at *
      rw [f1] at hg2
      generalize rate_ L K = rt at *
      generalize from_ L K = fr at *
      obtain ⟨p0, p1, p2, p3, p4, p5⟩ := p
      obtain ⟨u0, u1⟩ := u
      obtain ⟨x0, x1⟩ := x
      obtain ⟨⟨C0, C1⟩, C2⟩ := C
      obtain ⟨⟨V0, V1⟩, V2⟩ := V
      unfold mc at *
      simp only [] at *
      rw [e2]
      simp only [Option.bind_some]
      rw [decide_eq_false (by omega), cond_false, hg2]
      simp only [Option.bind_some]
      rw [e4]
      simp only [Option.bind_some]
      rw [bif_t (c := (13 : Int) == 13) rfl, e6]
      simp only [Option.bind_some]
      rw [e7]
      rfl
end
end Go.Proofs.YtaalnjfmcjdimaaGreat.E
/-
  The document's machine: what one thing becomes. No condition but the words' own bounds and the lists' lengths.
-/
namespace Go.Proofs.YtaalnjfmcjdimaaGreat.E
open Go
set_option linter.unusedVariables false
set_option linter.unusedSimpArgs false
set_option maxRecDepth 100000
def oneV (p : VPrg) (u : Wd) (c : Int × Int × Int) (x : Wd) (o : Bool) : CW :=
  if c.1 = 4 then ck (-wp_ x) o else if c.1 = 10 then overV x (p.2.2.2.1.getD c.2.1.toNat (0, 0)) o else if c.1 = 11 then (uptoV x (p.2.2.2.1.getD c.2.1.toNat (0, 0)), o)
  else if c.1 = 14 then offV x c.2.1 o else if c.1 = 12 then gradV (p.2.2.2.2.1.getD c.2.1.toNat []) x u o else volV (p.2.2.2.2.1.getD c.2.1.toNat []) x u o
theorem cmp_turn (a b : Int) : decide (cmpv a b > 0) = decide (cmpv b a < 0) := by
  have h1 := cmpv_cases a b
  have h2 := cmpv_cases b a
  rw [Bool.eq_iff_iff, decide_eq_true_eq, decide_eq_true_eq]
  omega
section
variable (p : VPrg) (q : List Int) (u : Wd) (l : List Wd) (a s : Int) (o : Bool)
theorem rOne4 {x : Wd} (c : Int × Int × Int) (hc : c.1 = 4) (hx : WB x.1 x.2) : N34 (mc p q u l a s o, c, x, ()) = some ((oneV p u c x o).1, mc p q u l a s (oneV p u c x o).2, ()) := by
  have e0 := rOf (a := 0) (by omega)
  have e1 := rMLess p q u l a s o (x := ofV 0) (WB_of (by omega)) hx
  rw [wp_of, Int.zero_sub] at e1
  unfold N34 M34 oneV
  rw [if_pos hc]
  unfold ofV at *
  generalize ck (-wp_ x) o = A at *
  obtain ⟨p0, p1, p2, p3, p4, p5⟩ := p
  obtain ⟨u0, u1⟩ := u
  obtain ⟨c0, c1, c2⟩ := c
  obtain ⟨x0, x1⟩ := x
  obtain ⟨⟨A0, A1⟩, A2⟩ := A
  simp only at hc
  subst hc
  unfold mc at *
  simp only [] at *
  rw [e0]
  simp only [Option.bind_some]
  rw [bif_t (c := (4 : Int) == 4) rfl, e1]
  rfl
theorem rOne10 {x : Wd} (c : Int × Int × Int) (hc : c.1 = 10) {k : Nat} (hk : c.2.1 = (k : Int)) (hp : k < p.2.2.2.1.length) (hC : WB p.2.2.2.1[k].1 p.2.2.2.1[k].2) (hx : WB x.1 x.2) : N34 (mc p q u l a s o, c, x, ()) = some ((oneV p u c x o).1, mc p q u l a s (oneV p u c x o).2, ()) := by
  have e0 := rOf (a := 0) (by omega)
  have hg := at_get hp
  have e1 := rMLess p q u l a s o hx hC
  have b1 := ck_WB (wp_ x - wp_ p.2.2.2.1[k]) o
  have e2 := rSign b1
  change N75 ((ck (wp_ x - wp_ p.2.2.2.1[k]) o).1, ()) = some (cmpv (wp_ (ck (wp_ x - wp_ p.2.2.2.1[k]) o).1) 0, ()) at e2
  unfold N34 M34 oneV overV
  rw [if_neg (by omega), if_pos hc, hk, Int.toNat_natCast, getD_at hp]
  generalize p.2.2.2.1[k] = n at *
  generalize ck (wp_ x - wp_ n) o = A at *
  obtain ⟨p0, p1, p2, p3, p4, p5⟩ := p
  obtain ⟨u0, u1⟩ := u
  obtain ⟨c0, c1, c2⟩ := c
  obtain ⟨x0, x1⟩ := x
  obtain ⟨n0, n1⟩ := n
  obtain ⟨⟨A0, A1⟩, A2⟩ := A
  simp only at hc hk
  subst hc hk
  unfold mc at *
  simp only [] at *
  rw [e0]
  simp only [Option.bind_some]
  rw [bif_f (c := (10 : Int) == 4) rfl, bif_t (c := (10 : Int) == 10) rfl, hg]
  simp only [Option.bind_some]
  rw [e1]
  simp only [Option.bind_some]
  rw [e2]
  simp only [Option.bind_some]
  cases decide (cmpv (wp_ (A0, A1)) 0 < 0) <;> rfl
theorem rOne11 {x : Wd} (c : Int × Int × Int) (hc : c.1 = 11) {k : Nat} (hk : c.2.1 = (k : Int)) (hp : k < p.2.2.2.1.length) (hC : WB p.2.2.2.1[k].1 p.2.2.2.1[k].2) (hx : WB x.1 x.2) : N34 (mc p q u l a s o, c, x, ()) = some ((oneV p u c x o).1, mc p q u l a s (oneV p u c x o).2, ()) := by
  have e0 := rOf (a := 0) (by omega)
  have hg := at_get hp
  have e2 := rCmp hx hC
  change N74 (x, p.2.2.2.1[k], ()) = some (cmpv (wp_ x) (wp_ p.2.2.2.1[k]), ()) at e2
  unfold N34 M34 oneV uptoV
  rw [if_neg (by omega), if_neg (by omega), if_pos hc, hk, Int.toNat_natCast, getD_at hp]
  generalize p.2.2.2.1[k] = n at *
  have ht := cmp_turn (wp_ x) (wp_ n)
  obtain ⟨p0, p1, p2, p3, p4, p5⟩ := p
  obtain ⟨u0, u1⟩ := u
  obtain ⟨c0, c1, c2⟩ := c
  obtain ⟨x0, x1⟩ := x
  obtain ⟨n0, n1⟩ := n
  simp only at hc hk
  subst hc hk
  unfold mc at *
  simp only [] at *
  rw [e0]
  simp only [Option.bind_some]
  rw [bif_f (c := (11 : Int) == 4) rfl, bif_f (c := (11 : Int) == 10) rfl, bif_t (c := (11 : Int) == 11) rfl, hg]
  simp only [Option.bind_some]
  rw [e2]
  simp only [Option.bind_some]
  rw [ht]
  cases decide (cmpv (wp_ (n0, n1)) (wp_ (x0, x1)) < 0) <;> rfl
theorem rOne14 {x : Wd} (c : Int × Int × Int) (hc : c.1 = 14) (hk : 0 ≤ c.2.1 ∧ c.2.1 ≤ 10000) (hx : WB x.1 x.2) : N34 (mc p q u l a s o, c, x, ()) = some ((oneV p u c x o).1, mc p q u l a s (oneV p u c x o).2, ()) := by
  have e0 := rOf (a := 0) (by omega)
  have e1 := rOf (a := 10000 - c.2.1) (by omega)
  have e2 := rMBy p q u l a s o (y := ofV (10000 - c.2.1)) hx (WB_of (by omega))
  rw [wp_of] at e2
  have b2 := ck_WB (wp_ x * (10000 - c.2.1)) o
  have e3 := rOf (a := 10000) (by omega)
  have e4 := rDiv (mode := 0) b2 (WB_of (a := 10000) (by omega))
  rw [wv_of] at e4
  change N35 ((ck (wp_ x * (10000 - c.2.1)) o).1, _, 0, ()) = some (divans (wp_ (ck (wp_ x * (10000 - c.2.1)) o).1) 10000 0) at e4
  unfold N34 M34 oneV offV
  rw [if_neg (by omega), if_neg (by omega), if_neg (by omega), if_pos hc]
  generalize ck (wp_ x * (10000 - c.2.1)) o = A at *
  generalize divans (wp_ A.1) 10000 0 = D at *
  unfold ofV at *
  obtain ⟨p0, p1, p2, p3, p4, p5⟩ := p
  obtain ⟨u0, u1⟩ := u
  obtain ⟨c0, c1, c2⟩ := c
  obtain ⟨x0, x1⟩ := x
  obtain ⟨⟨A0, A1⟩, A2⟩ := A
  obtain ⟨⟨D0, D1⟩, D2, ⟨⟩⟩ := D
  simp only at hc hk
  subst hc
  unfold mc at *
  simp only [] at *
  rw [e0]
  simp only [Option.bind_some]
  rw [bif_f (c := (14 : Int) == 4) rfl, bif_f (c := (14 : Int) == 10) rfl, bif_f (c := (14 : Int) == 11) rfl, bif_t (c := (14 : Int) == 14) rfl, wsi (n := 10000 - c1) (by omega), e1]
  simp only [Option.bind_some]
  rw [e2]
  simp only [Option.bind_some]
  rw [e3]
  simp only [Option.bind_some]
  rw [e4]
  rfl
theorem rOne12 {x : Wd} (c : Int × Int × Int) (hc : c.1 = 12 ∨ c.1 = 13) {k : Nat} (hk : c.2.1 = (k : Int)) (hp : k < p.2.2.2.2.1.length) (hT : Tiers p.2.2.2.2.1[k]) (hx : WB x.1 x.2) (hu : WB u.1 u.2) : N34 (mc p q u l a s o, c, x, ()) = some ((oneV p u c x o).1, mc p q u l a s (oneV p u c x o).2, ()) := by
  have e0 := rOf (a := 0) (by omega)
  have hg := at_get hp
  have e1 := rCharge p q u l a s o hT (op := c.1) hc hx hu
  unfold N34 M34 oneV
  rw [if_neg (by omega), if_neg (by omega), if_neg (by omega), if_neg (by omega), hk, Int.toNat_natCast, getD_at hp]
  generalize p.2.2.2.2.1[k] = T at *
  generalize (if c.1 = 12 then gradV T x u o else volV T x u o) = A at *
  obtain ⟨p0, p1, p2, p3, p4, p5⟩ := p
  obtain ⟨u0, u1⟩ := u
  obtain ⟨c0, c1, c2⟩ := c
  obtain ⟨x0, x1⟩ := x
  obtain ⟨⟨A0, A1⟩, A2⟩ := A
  simp only at hc hk e1
  subst hk
  unfold mc at *
  simp only [] at *
  rw [e0]
  simp only [Option.bind_some]
  rw [bif_eq, if_neg (by omega), bif_eq, if_neg (by omega), bif_eq, if_neg (by omega), bif_eq, if_neg (by omega), hg]
  simp only [Option.bind_some]
  rw [e1]
  rfl
end
end Go.Proofs.YtaalnjfmcjdimaaGreat.E
/-
  The document's machine: a step. Printed by genR4.py. No condition but those that the prover has seen to.
-/
namespace Go.Proofs.YtaalnjfmcjdimaaGreat.E
open Go
set_option linter.unusedVariables false
set_option linter.unusedSimpArgs false
set_option maxRecDepth 100000
section
variable {p : VPrg} {q : List Int} {u : Wd} {l : List Wd} {s : Nat} {o : Bool} {i : Nat}
theorem top_get {l : List Wd} {k : Nat} (h : k < l.length) : l[k]? = some (l.getD k (0, 0)) := by rw [List.getElem?_eq_getElem h, getD_at h]
def StepR (p : VPrg) (q : List Int) (u : Wd) (l : List Wd) (i s : Nat) (o : Bool) (c : Int × Int × Int) : Prop :=
  N15 (mc p q u l (i : Int) (s : Int) o, ()) = some (mc p q u (instrV p q u c l ((i + 1 : Nat) : Int) o).1 (instrV p q u c l ((i + 1 : Nat) : Int) o).2.1 ((s + 1 : Nat) : Int) (instrV p q u c l ((i + 1 : Nat) : Int) o).2.2, ())

theorem rStep1 {k : Nat} {c2 : Int} (hi : i < p.2.2.2.2.2.length) (hn : i ≤ 100000) (hs : s ≤ 100000) (hl : l.length ≤ 2000) (hp : k < p.2.2.2.1.length) (he : p.2.2.2.2.2[i] = (1, (k : Int), c2)) : StepR p q u l i s o (1, (k : Int), c2) := by
  have hk := at_get hp
  have hd := getD_at (z := ((0, 0) : Wd)) hp
  have hg := at_get hi
  rw [he] at hg
  obtain ⟨p0, p1, p2, p3, p4, p5⟩ := p
  obtain ⟨u0, u1⟩ := u
  unfold StepR N15 M15
  rw [instr_1]
  unfold mc at *
  simp only [] at *
  rw [hg]
  simp only [Option.bind_some]
  rw [bif_t (c := (1 : Int) == 1) rfl]
  rw [hk]
  simp only [Option.bind_some]
  rw [bif_t (c := decide ((l.length + 1) * 16 ≤ _)) (decide_eq_true (by omega))]
  simp only [Option.bind_some]
  rw [wsi (n := (i : Int) + 1) (by omega), show (i : Int) + 1 = ((i + 1 : Nat) : Int) by omega, wsi (n := (s : Int) + 1) (by omega), show (s : Int) + 1 = ((s + 1 : Nat) : Int) by omega, Int.toNat_natCast, hd]
theorem rStep2 {k : Nat} {c2 : Int} (hi : i < p.2.2.2.2.2.length) (hn : i ≤ 100000) (hs : s ≤ 100000) (hl : l.length ≤ 2000) (hp : k < q.length) (hq : 0 ≤ q[k] ∧ q[k] ≤ 1099511627776) (he : p.2.2.2.2.2[i] = (2, (k : Int), c2)) : StepR p q u l i s o (2, (k : Int), c2) := by
  have hk := at_get hp
  have hd := getD_at (z := (0 : Int)) hp
  have e := rOf (a := q[k]) (by omega)
  have hg := at_get hi
  rw [he] at hg
  obtain ⟨p0, p1, p2, p3, p4, p5⟩ := p
  obtain ⟨u0, u1⟩ := u
  unfold StepR N15 M15
  rw [instr_2]
  unfold mc at *
  simp only [] at *
  rw [hg]
  simp only [Option.bind_some]
  rw [bif_f (c := (2 : Int) == 1) rfl, bif_t (c := (2 : Int) == 2) rfl]
  rw [hk]
  simp only [Option.bind_some]
  rw [e]
  simp only [Option.bind_some]
  rw [bif_t (c := decide ((l.length + 1) * 16 ≤ _)) (decide_eq_true (by omega))]
  simp only [Option.bind_some]
  rw [wsi (n := (i : Int) + 1) (by omega), show (i : Int) + 1 = ((i + 1 : Nat) : Int) by omega, wsi (n := (s : Int) + 1) (by omega), show (s : Int) + 1 = ((s + 1 : Nat) : Int) by omega, Int.toNat_natCast, hd]
  rfl
theorem rBlk {X Y : Int} (h : 0 ≤ X ∧ X ≤ 1099511627776) (h2 : 1 ≤ Y ∧ Y ≤ 1000000000000) : N31 (X, Y, ()) = some (blkV X Y, ()) := by
  have hz : (!(Y == 0)) = true := by simp; omega
  have h3 : 0 ≤ X / Y := Int.ediv_nonneg h.1 (by omega)
  have h4 : X / Y ≤ X := Int.ediv_le_self _ h.1
  unfold N31 M31 blkV
  simp only []
  rw [hz, tdiv_pos h.1, tmod_pos h.1]
  simp only [cond_true, Option.bind_some]
  rw [bif_ne, wsi (n := X / Y) (by omega), wsi (n := X / Y + 1) (by omega)]
  split
  · rw [Int.add_zero]
  · rfl
theorem rStep3 {k : Nat} {c2 : Int} (hi : i < p.2.2.2.2.2.length) (hn : i ≤ 100000) (hs : s ≤ 100000) (hl : l.length ≤ 2000) (hp : k < q.length) (hz : k < p.2.2.1.length) (hq : 0 ≤ q[k] ∧ q[k] ≤ 1099511627776) (hy : 1 ≤ p.2.2.1[k] ∧ p.2.2.1[k] ≤ 1000000000000) (he : p.2.2.2.2.2[i] = (3, (k : Int), c2)) : StepR p q u l i s o (3, (k : Int), c2) := by
  have hk := at_get hp
  have hk2 := at_get hz
  have hd := getD_at (z := (0 : Int)) hp
  have hd2 := getD_at (z := (0 : Int)) hz
  have e0 := rBlk hq hy
  have hb : 0 ≤ blkV q[k] p.2.2.1[k] ∧ blkV q[k] p.2.2.1[k] ≤ 1099511627777 := by
    unfold blkV
    have h1 : 0 ≤ q[k] / p.2.2.1[k] := Int.ediv_nonneg hq.1 (by omega)
    have h2 : q[k] / p.2.2.1[k] ≤ q[k] := Int.ediv_le_self _ hq.1
    split <;> omega
  have e := rOf (a := blkV q[k] p.2.2.1[k]) (by omega)
  have hg := at_get hi
  rw [he] at hg
  obtain ⟨p0, p1, p2, p3, p4, p5⟩ := p
  obtain ⟨u0, u1⟩ := u
  unfold StepR N15 M15
  rw [instr_3]
  unfold mc at *
  simp only [] at *
  rw [hg]
  simp only [Option.bind_some]
  rw [bif_f (c := (3 : Int) == 1) rfl, bif_f (c := (3 : Int) == 2) rfl, bif_t (c := (3 : Int) == 3) rfl]
  rw [hk]
  simp only [Option.bind_some]
  rw [hk2]
  simp only [Option.bind_some]
  rw [e0]
  simp only [Option.bind_some]
  rw [e]
  simp only [Option.bind_some]
  rw [bif_t (c := decide ((l.length + 1) * 16 ≤ _)) (decide_eq_true (by omega))]
  simp only [Option.bind_some]
  rw [wsi (n := (i : Int) + 1) (by omega), show (i : Int) + 1 = ((i + 1 : Nat) : Int) by omega, wsi (n := (s : Int) + 1) (by omega), show (s : Int) + 1 = ((s + 1 : Nat) : Int) by omega, Int.toNat_natCast, hd, hd2]
  rfl
theorem both {a b : Prop} [Decidable a] [Decidable b] (h : a ∧ b) : (decide a && decide b) = true := by rw [decide_eq_true h.1, decide_eq_true h.2]; rfl
theorem rStep5 {op c1 c2 : Int} (ho : 5 ≤ op ∧ op ≤ 9) (hi : i < p.2.2.2.2.2.length) (hn : i ≤ 100000) (hs : s ≤ 100000) (hl : l.length ≤ 2000) (h2 : 2 ≤ l.length) (hw : ∀ x ∈ l, WB x.1 x.2) (he : p.2.2.2.2.2[i] = (op, c1, c2)) : StepR p q u l i s o (op, c1, c2) := by
  have g1 := top_get (show l.length - 2 < l.length by omega)
  have g2 := top_get (show l.length - 1 < l.length by omega)
  have e := rTwo p q u l ((i + 1 : Nat) : Int) ((s + 1 : Nat) : Int) o ho (getD_WB hw (l.length - 1)) (getD_WB hw (l.length - 2))
  have hg := at_get hi
  rw [he] at hg
  unfold StepR
  have hi1 : instrV p q u (op, c1, c2) l ((i + 1 : Nat) : Int) o = (l.take (l.length - 2) ++ [(if op = 5 then ck (wp_ (l.getD (l.length - 2) (0, 0)) + wp_ (l.getD (l.length - 1) (0, 0))) o else if op = 6 then ck (wp_ (l.getD (l.length - 2) (0, 0)) - wp_ (l.getD (l.length - 1) (0, 0))) o else if op = 7 then ck (wp_ (l.getD (l.length - 2) (0, 0)) * wp_ (l.getD (l.length - 1) (0, 0))) o else if op = 8 then (bif decide (cmpv (wp_ (l.getD (l.length - 1) (0, 0))) (wp_ (l.getD (l.length - 2) (0, 0))) < 0) then l.getD (l.length - 1) (0, 0) else l.getD (l.length - 2) (0, 0), o) else (bif decide (cmpv (wp_ (l.getD (l.length - 1) (0, 0))) (wp_ (l.getD (l.length - 2) (0, 0))) > 0) then l.getD (l.length - 1) (0, 0) else l.getD (l.length - 2) (0, 0), o)).1], ((i + 1 : Nat) : Int), (if op = 5 then ck (wp_ (l.getD (l.length - 2) (0, 0)) + wp_ (l.getD (l.length - 1) (0, 0))) o else if op = 6 then ck (wp_ (l.getD (l.length - 2) (0, 0)) - wp_ (l.getD (l.length - 1) (0, 0))) o else if op = 7 then ck (wp_ (l.getD (l.length - 2) (0, 0)) * wp_ (l.getD (l.length - 1) (0, 0))) o else if op = 8 then (bif decide (cmpv (wp_ (l.getD (l.length - 1) (0, 0))) (wp_ (l.getD (l.length - 2) (0, 0))) < 0) then l.getD (l.length - 1) (0, 0) else l.getD (l.length - 2) (0, 0), o) else (bif decide (cmpv (wp_ (l.getD (l.length - 1) (0, 0))) (wp_ (l.getD (l.length - 2) (0, 0))) > 0) then l.getD (l.length - 1) (0, 0) else l.getD (l.length - 2) (0, 0), o)).2) := by
    have : op = 5 ∨ op = 6 ∨ op = 7 ∨ op = 8 ∨ op = 9 := by omega
    rcases this with rfl | rfl | rfl | rfl | rfl <;> rfl
  rw [hi1]
  clear hi1
  generalize (if op = 5 then ck (wp_ (l.getD (l.length - 2) (0, 0)) + wp_ (l.getD (l.length - 1) (0, 0))) o else if op = 6 then ck (wp_ (l.getD (l.length - 2) (0, 0)) - wp_ (l.getD (l.length - 1) (0, 0))) o else if op = 7 then ck (wp_ (l.getD (l.length - 2) (0, 0)) * wp_ (l.getD (l.length - 1) (0, 0))) o else if op = 8 then (bif decide (cmpv (wp_ (l.getD (l.length - 1) (0, 0))) (wp_ (l.getD (l.length - 2) (0, 0))) < 0) then l.getD (l.length - 1) (0, 0) else l.getD (l.length - 2) (0, 0), o) else (bif decide (cmpv (wp_ (l.getD (l.length - 1) (0, 0))) (wp_ (l.getD (l.length - 2) (0, 0))) > 0) then l.getD (l.length - 1) (0, 0) else l.getD (l.length - 2) (0, 0), o)) = A at *
  generalize l.getD (l.length - 1) (0, 0) = x at *
  generalize l.getD (l.length - 2) (0, 0) = y at *
  unfold N15 M15
  obtain ⟨p0, p1, p2, p3, p4, p5⟩ := p
  obtain ⟨u0, u1⟩ := u
  obtain ⟨x0, x1⟩ := x
  obtain ⟨y0, y1⟩ := y
  obtain ⟨⟨A0, A1⟩, A2⟩ := A
  unfold mc at *
  simp only [] at *
  rw [hg]
  simp only [Option.bind_some]
  rw [bif_eq, if_neg (by omega), bif_eq, if_neg (by omega), bif_eq, if_neg (by omega), bif_t (c := decide (op ≥ 5)) (decide_eq_true (by omega)), bif_t (c := decide (op ≤ 9)) (decide_eq_true (by omega))]
  rw [wsi (n := (i : Int) + 1) (by omega), show (i : Int) + 1 = ((i + 1 : Nat) : Int) by omega, wsi (n := (s : Int) + 1) (by omega), show (s : Int) + 1 = ((s + 1 : Nat) : Int) by omega, wsi (n := (l.length : Int) - 2) (by omega), show (l.length : Int) - 2 = ((l.length - 2 : Nat) : Int) by omega, wsi (n := (l.length : Int) - 1) (by omega), show (l.length : Int) - 1 = ((l.length - 1 : Nat) : Int) by omega, Int.toNat_natCast, Int.toNat_natCast, Nat.sub_zero, g1, g2]
  rw [bif_t (c := decide (0 ≤ ((l.length - 2 : Nat) : Int)) && _) (both (by omega))]
  simp only [Option.bind_some]
  rw [bif_t (c := decide (0 ≤ ((l.length - 1 : Nat) : Int)) && _) (both (by omega))]
  simp only [Option.bind_some]
  rw [e]
  simp only [Option.bind_some, Bool.true_and]
  rw [bif_t (c := decide (0 ≤ ((l.length - 2 : Nat) : Int)) && _) (both (by omega))]
  simp only [Option.bind_some]
  rw [bif_t (c := decide ((l.length - 2 + 1) * 16 ≤ _) && _) (both (by omega))]
  rfl
theorem rStep4 {op c1 c2 : Int} (ho : op = 4 ∨ 10 ≤ op ∧ op ≤ 14) (hi : i < p.2.2.2.2.2.length) (hn : i ≤ 100000) (hs : s ≤ 100000) (hl : l.length ≤ 2000) (h1 : 1 ≤ l.length) (hw : ∀ x ∈ l, WB x.1 x.2) (he : p.2.2.2.2.2[i] = (op, c1, c2))
    (e : N34 (mc p q u l ((i + 1 : Nat) : Int) ((s + 1 : Nat) : Int) o, (op, c1, c2), l.getD (l.length - 1) (0, 0), ()) = some ((oneV p u (op, c1, c2) (l.getD (l.length - 1) (0, 0)) o).1, mc p q u l ((i + 1 : Nat) : Int) ((s + 1 : Nat) : Int) (oneV p u (op, c1, c2) (l.getD (l.length - 1) (0, 0)) o).2, ())) : StepR p q u l i s o (op, c1, c2) := by
  have g2 := top_get (show l.length - 1 < l.length by omega)
  have hg := at_get hi
  rw [he] at hg
  unfold StepR
  have hi1 : instrV p q u (op, c1, c2) l ((i + 1 : Nat) : Int) o = (l.take (l.length - 1) ++ [(oneV p u (op, c1, c2) (l.getD (l.length - 1) (0, 0)) o).1], ((i + 1 : Nat) : Int), (oneV p u (op, c1, c2) (l.getD (l.length - 1) (0, 0)) o).2) := by
    have : op = 4 ∨ op = 10 ∨ op = 11 ∨ op = 12 ∨ op = 13 ∨ op = 14 := by omega
    rcases this with rfl | rfl | rfl | rfl | rfl | rfl <;> rfl
  rw [hi1]
  clear hi1
  generalize oneV p u (op, c1, c2) (l.getD (l.length - 1) (0, 0)) o = A at *
  generalize l.getD (l.length - 1) (0, 0) = x at *
  unfold N15 M15
  obtain ⟨p0, p1, p2, p3, p4, p5⟩ := p
  obtain ⟨u0, u1⟩ := u
  obtain ⟨x0, x1⟩ := x
  obtain ⟨⟨A0, A1⟩, A2⟩ := A
  unfold mc at *
  simp only [] at *
  rw [hg]
  simp only [Option.bind_some]
  rw [bif_eq, if_neg (by omega), bif_eq, if_neg (by omega), bif_eq, if_neg (by omega), ← bif_and, bif_f (c := decide (op ≥ 5) && decide (op ≤ 9)) (by rw [Bool.and_eq_false_iff, decide_eq_false_iff_not, decide_eq_false_iff_not]; omega), bif_f (c := op == 15) (by simp; omega), bif_f (c := decide (op > 15)) (decide_eq_false (by omega))]
  rw [wsi (n := (i : Int) + 1) (by omega), show (i : Int) + 1 = ((i + 1 : Nat) : Int) by omega, wsi (n := (s : Int) + 1) (by omega), show (s : Int) + 1 = ((s + 1 : Nat) : Int) by omega, wsi (n := (l.length : Int) - 1) (by omega), show (l.length : Int) - 1 = ((l.length - 1 : Nat) : Int) by omega, Int.toNat_natCast, Nat.sub_zero, g2]
  rw [bif_t (c := decide (0 ≤ ((l.length - 1 : Nat) : Int)) && _) (both (by omega))]
  simp only [Option.bind_some]
  rw [e]
  simp only [Option.bind_some, Bool.true_and]
  rw [bif_t (c := decide (0 ≤ ((l.length - 1 : Nat) : Int)) && _) (both (by omega))]
  simp only [Option.bind_some]
  rw [bif_t (c := decide ((l.length - 1 + 1) * 16 ≤ _) && _) (both (by omega))]
  rfl
theorem rStep15 {c1 c2 : Int} (hi : i < p.2.2.2.2.2.length) (hn : i ≤ 100000) (hs : s ≤ 100000) (hl : l.length ≤ 2000) (hc : 0 ≤ c2 ∧ c2 ≤ 65535) (he : p.2.2.2.2.2[i] = (15, c1, c2)) : StepR p q u l i s o (15, c1, c2) := by
  have hg := at_get hi
  rw [he] at hg
  obtain ⟨p0, p1, p2, p3, p4, p5⟩ := p
  obtain ⟨u0, u1⟩ := u
  unfold StepR N15 M15
  rw [instr_15]
  unfold mc at *
  simp only [] at *
  rw [hg]
  simp only [Option.bind_some]
  rw [bif_f (c := (15 : Int) == 1) rfl, bif_f (c := (15 : Int) == 2) rfl, bif_f (c := (15 : Int) == 3) rfl, bif_t (c := decide ((15 : Int) ≥ 5)) rfl, bif_f (c := decide ((15 : Int) ≤ 9)) rfl, bif_t (c := (15 : Int) == 15) rfl]
  rw [wsi (n := (i : Int) + 1) (by omega), show (i : Int) + 1 = ((i + 1 : Nat) : Int) by omega, wsi (n := (s : Int) + 1) (by omega), show (s : Int) + 1 = ((s + 1 : Nat) : Int) by omega, wsi (n := ((i + 1 : Nat) : Int) + c2) (by omega)]
theorem instr_16 {p : VPrg} {q : List Int} {u : Wd} {l : List Wd} {a : Int} {o : Bool} {op c1 c2 : Int} (h : 16 ≤ op) : instrV p q u (op, c1, c2) l a o = (l.take (l.length - 1), bif holdsV (cmpv (wp_ (l.getD (l.length - 1) (0, 0))) (wp_ (p.2.2.2.1.getD c1.toNat (0, 0)))) (op - 15) then a else a + c2, o) := by
  unfold instrV
  simp only []
  rw [if_neg (by omega), if_neg (by omega), if_neg (by omega), if_neg (by omega), if_neg (by omega), if_neg (by omega), if_neg (by omega), if_neg (by omega), if_neg (by omega), if_neg (by omega), if_neg (by omega), if_neg (by omega), if_neg (by omega), if_neg (by omega), if_neg (by omega)]
theorem rStep16 {op c2 : Int} {k : Nat} (hi : i < p.2.2.2.2.2.length) (hn : i ≤ 100000) (hs : s ≤ 100000) (hl : l.length ≤ 2000) (hop : 16 ≤ op ∧ op ≤ 21) (hc : 0 ≤ c2 ∧ c2 ≤ 65535) (hp : k < p.2.2.2.1.length) (hC : WB p.2.2.2.1[k].1 p.2.2.2.1[k].2) (h1 : 1 ≤ l.length) (hw : ∀ x ∈ l, WB x.1 x.2) (he : p.2.2.2.2.2[i] = (op, (k : Int), c2)) : StepR p q u l i s o (op, (k : Int), c2) := by
  have hx := getD_WB hw (l.length - 1)
  have g2 := top_get (show l.length - 1 < l.length by omega)
  have hk := at_get hp
  have hd := getD_at (z := ((0, 0) : Wd)) hp
  have e := rHolds (op := op - 15) hx hC
  have hg := at_get hi
  rw [he] at hg
  unfold StepR
  rw [instr_16 hop.1, Int.toNat_natCast, hd]
  clear hd
  generalize l.getD (l.length - 1) (0, 0) = x at *
  generalize p.2.2.2.1[k] = n at *
  unfold N15 M15
  obtain ⟨p0, p1, p2, p3, p4, p5⟩ := p
  obtain ⟨u0, u1⟩ := u
  obtain ⟨x0, x1⟩ := x
  obtain ⟨n0, n1⟩ := n
  unfold mc at *
  simp only [] at *
  rw [hg]
  simp only [Option.bind_some]
  rw [bif_eq, if_neg (by omega), bif_eq, if_neg (by omega), bif_eq, if_neg (by omega), bif_t (c := decide (op ≥ 5)) (decide_eq_true (by omega)), bif_f (c := decide (op ≤ 9)) (decide_eq_false (by omega)), bif_f (c := op == 15) (by simp; omega), bif_t (c := decide (op > 15)) (decide_eq_true (by omega))]
  rw [wsi (n := (i : Int) + 1) (by omega), show (i : Int) + 1 = ((i + 1 : Nat) : Int) by omega, wsi (n := (s : Int) + 1) (by omega), show (s : Int) + 1 = ((s + 1 : Nat) : Int) by omega, wsi (n := (l.length : Int) - 1) (by omega), show (l.length : Int) - 1 = ((l.length - 1 : Nat) : Int) by omega, Int.toNat_natCast, Nat.sub_zero, g2]
  rw [bif_t (c := decide (0 ≤ ((l.length - 1 : Nat) : Int)) && decide (((l.length - 1 : Nat) : Int) < (l.length : Int))) (by rw [decide_eq_true (by omega), decide_eq_true (by omega)]; rfl)]
  simp only [Option.bind_some]
  rw [hk]
  simp only [Option.bind_some]
  rw [wsi (n := op - 15) (by omega), e]
  simp only [Option.bind_some]
  rw [bif_t (c := true && decide (0 ≤ ((l.length - 1 : Nat) : Int)) && decide (((l.length - 1 : Nat) : Int) ≤ (l.length : Int))) (by rw [decide_eq_true (by omega), decide_eq_true (by omega)]; rfl)]
  simp only [Option.bind_some]
  rw [show Nat.ble (l.length - 1) l.length = true from Nat.ble_eq_true_of_le (by omega)]
  simp only [cond_true, Option.bind_some]
  rw [wsi (n := ((i + 1 : Nat) : Int) + c2) (by omega)]
  cases holdsV (cmpv (wp_ (x0, x1)) (wp_ (n0, n1))) (op - 15) <;> rfl
end
end Go.Proofs.YtaalnjfmcjdimaaGreat.E
/-
  The document's machine: its run, whole. No condition but the sizes that any machine's memory has.
-/
namespace Go.Proofs.YtaalnjfmcjdimaaGreat.E
open Go
set_option linter.unusedVariables false
set_option linter.unusedSimpArgs false
set_option maxRecDepth 100000
theorem rPow0 : N14 (0, ()) = some (unitV 0, 0, ()) := by kernel_rfl
theorem rPow1 : N14 (1, ()) = some (unitV 1, 0, ()) := by kernel_rfl
theorem rPow2 : N14 (2, ()) = some (unitV 2, 0, ()) := by kernel_rfl
theorem rPow3 : N14 (3, ()) = some (unitV 3, 0, ()) := by kernel_rfl
theorem rPow4 : N14 (4, ()) = some (unitV 4, 0, ()) := by kernel_rfl
theorem rPow5 : N14 (5, ()) = some (unitV 5, 0, ()) := by kernel_rfl
theorem rPow6 : N14 (6, ()) = some (unitV 6, 0, ()) := by kernel_rfl
theorem rPower {k : Int} (h : 0 ≤ k ∧ k ≤ 6) : N14 (k, ()) = some (unitV k, 0, ()) := by
  have : k = 0 ∨ k = 1 ∨ k = 2 ∨ k = 3 ∨ k = 4 ∨ k = 5 ∨ k = 6 := by omega
  rcases this with rfl | rfl | rfl | rfl | rfl | rfl | rfl
  · exact rPow0
  · exact rPow1
  · exact rPow2
  · exact rPow3
  · exact rPow4
  · exact rPow5
  · exact rPow6
theorem rInt {h l : Int} (b : WB h l) : N36 ((h, l), ()) = some (intans (wv h l)) := by
  have hr : -9223372036854775808 ≤ (l + 9223372036854775808) % 18446744073709551616 - 9223372036854775808 ∧ (l + 9223372036854775808) % 18446744073709551616 - 9223372036854775808 ≤ 9223372036854775807 := by omega
  have e := rOf hr
  unfold WB at b
  unfold N36 M36 intans wv
  simp only []
  rw [ws, e]
  simp only [Option.bind_some]
  rw [bif_not, bif_and, bif_eq, bif_eq]
  have hv : (l + 9223372036854775808) % 18446744073709551616 - 9223372036854775808 = l ∨ (l + 9223372036854775808) % 18446744073709551616 - 9223372036854775808 = l - 18446744073709551616 := by omega
  generalize (l + 9223372036854775808) % 18446744073709551616 - 9223372036854775808 = v at *
  by_cases h1 : v / 18446744073709551616 = h
  · rw [if_pos h1]
    have h2 : v % 18446744073709551616 = l := by omega
    rw [if_pos h2, if_pos (by omega)]
    have : v = h * 18446744073709551616 + l := by omega
    rw [this]
  · rw [if_neg h1, if_neg (by omega)]
theorem rQty {q : List Int} {p : Prg} (hl : q.length ≤ 140737488355328) : itrs R8_0 (q, zp p, 0, ()) = some (bif (List.range' 0 q.length).any (fun j => badQty (q.getD j 0)) then Sum.inr (0, 0, 101, ()) else Sum.inl (q, zp p, ())) := by
  obtain ⟨p0, p1, p2, p3, p4, p5⟩ := p
  refine itrs_any (fun j => (q, zp (p0, p1, p2, p3, p4, p5), (j : Int), ())) (fun j => badQty (q.getD j 0)) (Sum.inr (0, 0, 101, ())) (Sum.inl (q, zp (p0, p1, p2, p3, p4, p5), ())) q.length rfl (fun j hj => ?_) ?_ (by omega)
  · have hg := at_get hj
    unfold R8_0 Q8_0 zp
    simp only []
    rw [bif_t (c := decide ((j : Int) < (q.length : Int))) (decide_eq_true (by omega)), hg, getD_at hj]
    simp only [Option.bind_some]
    rw [wsi (n := (j : Int) + 1) (by omega)]
    unfold badQty
    cases decide (q[j] < 0) <;> cases decide (q[j] > 1099511627776) <;> rfl
  · unfold R8_0 Q8_0 zp
    simp only []
    rw [bif_f (c := decide ((q.length : Int) < (q.length : Int))) (decide_eq_false (by omega))]
section
variable {p : VPrg} {q : List Int} {u : Wd}
theorem rStepAll {c : Int × Int × Int} {l : List Wd} {i s : Nat} {o : Bool} (g : Good p q u) (f : Fits p c l ((i + 1 : Nat) : Int)) (hi : i < p.2.2.2.2.2.length) (hn : i ≤ 100000) (hs : s ≤ 100000) (he : p.2.2.2.2.2[i] = c) : StepR p q u l i s o c := by
  have hops := f.ops
  obtain ⟨b0, b1, b2⟩ := badInstr_in f.b
  have hr := f.r
  have hh := f.h
  have hl := f.n
  have hw := f.w
  obtain ⟨K, hK⟩ : ∃ K : Nat, c.2.1 = (K : Int) := ⟨c.2.1.toNat, by omega⟩
  obtain ⟨op, c1, c2⟩ := c
  simp only at hops b0 b1 b2 hr hh hK
  subst hK
  have con : (op = 1 ∨ op = 10 ∨ op = 11 ∨ 16 ≤ op) → ∃ hk : K < p.2.2.2.1.length, WB p.2.2.2.1[K].1 p.2.2.2.1[K].2 := fun ho => by
    have hk : K < p.2.2.2.1.length := by
      unfold arn at hr
      split at hr
      · omega
      split at hr
      · omega
      split at hr
      · omega
      split at hr
      · omega
      · omega
    exact ⟨hk, g.cw _ (List.getElem_mem hk)⟩
  have siz : (op = 2 ∨ op = 3) → ∃ (hk : K < q.length) (hs : K < p.2.2.1.length), (0 ≤ q[K] ∧ q[K] ≤ 1099511627776) ∧ (1 ≤ p.2.2.1[K] ∧ p.2.2.1[K] ≤ 1000000000000) := fun ho => by
    have hs : K < p.2.2.1.length := by
      unfold arn at hr
      split at hr <;> omega
    have hk : K < q.length := by rw [g.nw]; exact hs
    exact ⟨hk, hs, g.qw _ (List.getElem_mem hk), g.sw _ (List.getElem_mem hs)⟩
  have tir : (op = 12 ∨ op = 13) → ∃ hk : K < p.2.2.2.2.1.length, Tiers p.2.2.2.2.1[K] := fun ho => by
    have hk : K < p.2.2.2.2.1.length := by
      rcases ho with rfl | rfl <;> (have : (K : Int) < (p.2.2.2.2.1.length : Int) := hr; omega)
    exact ⟨hk, g.tw _ (List.getElem_mem hk)⟩
  have one : tkn op = 1 → 1 ≤ l.length := fun h => by omega
  have two : tkn op = 2 → 2 ≤ l.length := fun h => by omega
  rcases hops with rfl | rfl | rfl | rfl | rfl | rfl | rfl | rfl | rfl | rfl | rfl | rfl | rfl | rfl | rfl | hops
  · obtain ⟨k1, k2⟩ := con (by omega)
    exact rStep1 hi hn hs hl k1 he
  · obtain ⟨k1, k2, k3, k4⟩ := siz (by omega)
    exact rStep2 hi hn hs hl k1 k3 he
  · obtain ⟨k1, k2, k3, k4⟩ := siz (by omega)
    exact rStep3 hi hn hs hl k1 k2 k3 k4 he
  · exact rStep4 (.inl rfl) hi hn hs hl (one rfl) hw he (rOne4 _ _ _ _ _ _ _ _ rfl (getD_WB hw _))
  · exact rStep5 (by omega) hi hn hs hl (two rfl) hw he
  · exact rStep5 (by omega) hi hn hs hl (two rfl) hw he
  · exact rStep5 (by omega) hi hn hs hl (two rfl) hw he
  · exact rStep5 (by omega) hi hn hs hl (two rfl) hw he
  · exact rStep5 (by omega) hi hn hs hl (two rfl) hw he
  · obtain ⟨k1, k2⟩ := con (by omega)
    exact rStep4 (by omega) hi hn hs hl (one rfl) hw he (rOne10 _ _ _ _ _ _ _ _ rfl rfl k1 k2 (getD_WB hw _))
  · obtain ⟨k1, k2⟩ := con (by omega)
    exact rStep4 (by omega) hi hn hs hl (one rfl) hw he (rOne11 _ _ _ _ _ _ _ _ rfl rfl k1 k2 (getD_WB hw _))
  · obtain ⟨k1, k2⟩ := tir (by omega)
    exact rStep4 (by omega) hi hn hs hl (one rfl) hw he (rOne12 _ _ _ _ _ _ _ _ (.inl rfl) rfl k1 k2 (getD_WB hw _) g.uw)
  · obtain ⟨k1, k2⟩ := tir (by omega)
    exact rStep4 (by omega) hi hn hs hl (one rfl) hw he (rOne12 _ _ _ _ _ _ _ _ (.inr rfl) rfl k1 k2 (getD_WB hw _) g.uw)
  · have hr' : (K : Int) < 10001 := hr
    exact rStep4 (by omega) hi hn hs hl (one rfl) hw he (rOne14 _ _ _ _ _ _ _ _ rfl (by simp only; omega) (getD_WB hw _))
  · exact rStep15 hi hn hs hl b2 he
  · obtain ⟨k1, k2⟩ := con (by omega)
    have htk : tkn op = 1 := by unfold tkn; rw [if_pos (by omega)]
    exact rStep16 hi hn hs hl hops b2 k1 k2 (one htk) hw he
theorem rLoop {pl : Pl} {H S : Int} (hs : Seen p pl H S) (g : Good p q u) : ∀ (n : Nat) (l : List Wd) (i s : Nat), p.2.2.2.2.2.length ≤ i + n → s + n ≤ 100000 → At p pl l i →
    itr R8_2 (n + 1) (zp p, mc p q u l (i : Int) (s : Int) false, ()) = some (match runV p q u n l i s with | none => .inr (0, 0, 10, ()) | some r => .inl (zp p, mc p q u r.1 (r.2.1 : Int) (r.2.2 : Int) false, ()))
  | 0, l, i, s, hi, hn, hA => by
    refine itr_out ?_
    obtain ⟨p0, p1, p2, p3, p4, p5⟩ := p
    obtain ⟨u0, u1⟩ := u
    simp only at hi
    unfold R8_2 Q8_2 mc zp
    simp only []
    rw [bif_f (c := decide ((i : Int) < (p5.length : Int))) (decide_eq_false (by omega))]
    rfl
  | n + 1, l, i, s, hi, hn, hA => by
    unfold runV
    by_cases hlt : i < p.2.2.2.2.2.length
    · rw [if_pos hlt]
      have hsn := hs.R.n
      have ff := hA.fits hs hlt
      rw [getD_at hlt] at ff
      have e1 := rStepAll (s := s) (o := false) g ff hlt (by omega) (by omega) rfl
      unfold StepR at e1
      rw [getD_at hlt]
      obtain ⟨a1, a2, a3, a4⟩ := hA.next (o := false) hs g hlt
      rw [getD_at hlt] at a1 a2 a3
      have ih := rLoop hs g n _ _ (s + 1) (show p.2.2.2.2.2.length ≤ (instrV p q u p.2.2.2.2.2[i] l ((i + 1 : Nat) : Int) false).2.1.toNat + n by omega) (by omega) a1
      rw [a2] at ih
      generalize instrV p q u p.2.2.2.2.2[i] l ((i + 1 : Nat) : Int) false = r at *
      have hlt' : ((i : Int) < (p.2.2.2.2.2.length : Int)) := by omega
      obtain ⟨r0, r1, r2⟩ := r
      have key : R8_2 (zp p, mc p q u l (i : Int) (s : Int) false, ()) = bif r2 then some (.inr (.inr (0, 0, 10, ()))) else some (.inl (zp p, mc p q u r0 r1 ((s + 1 : Nat) : Int) r2, ())) := by
        clear ih a1 a2 a3 a4
        obtain ⟨p0, p1, p2, p3, p4, p5⟩ := p
        obtain ⟨u0, u1⟩ := u
        unfold mc zp R8_2 Q8_2 at *
        simp only [] at *
        rw [bif_t (c := decide ((i : Int) < (p5.length : Int))) (decide_eq_true hlt'), e1]
        rfl
      cases r2 with
      | true =>
        rw [if_pos rfl]
        exact itr_out key
      | false =>
        rw [if_neg (show ¬ (false : Bool) = true by decide)]
        simp only [cond_false] at key
        rw [itr_in key]
        exact ih
    · rw [if_neg hlt]
      refine itr_out ?_
      obtain ⟨p0, p1, p2, p3, p4, p5⟩ := p
      obtain ⟨u0, u1⟩ := u
      simp only at hlt
      unfold R8_2 Q8_2 mc zp
      simp only []
      rw [bif_f (c := decide ((i : Int) < (p5.length : Int))) (decide_eq_false (by omega))]
end
theorem rRounded {x u : Wd} {mode : Int} (hx : WB x.1 x.2) (hu : WB u.1 u.2) : ∃ e v, N16 (x, u, mode, ()) = some (v, e, ()) ∧ quotV x u mode = (if e = 0 then (v, 0) else (0, 102)) := by
  have e1 := rDiv (mode := mode) hx hu
  have e2 := rInt (divans_WB2 (wv x.1 x.2) (wv u.1 u.2) mode)
  unfold N16 M16 quotV quotQ
  change N35 (x, u, mode, ()) = some (divans (wp_ x) (wp_ u) mode) at e1
  change N36 ((divans (wp_ x) (wp_ u) mode).1, ()) = some (intans (wp_ (divans (wp_ x) (wp_ u) mode).1)) at e2
  generalize intans (wp_ (divans (wp_ x) (wp_ u) mode).1) = I at *
  generalize divans (wp_ x) (wp_ u) mode = D at *
  obtain ⟨x0, x1⟩ := x
  obtain ⟨u0, u1⟩ := u
  obtain ⟨⟨D0, D1⟩, D2, ⟨⟩⟩ := D
  obtain ⟨I0, I1, ⟨⟩⟩ := I
  simp only [] at *
  rw [e1]
  simp only [Option.bind_some]
  rw [bif_ne]
  by_cases hD : D2 = 0
  · rw [if_pos hD, if_neg (by omega), e2]
    simp only [Option.bind_some]
    cases I1 with
    | false => exact ⟨102, 0, rfl, rfl⟩
    | true =>
      rw [if_neg (by decide), Bool.not_true, cond_false, bif_p, bif_p]
      by_cases h1 : I0 < -1000000000000000
      · rw [if_pos h1, if_pos h1]; exact ⟨102, 0, rfl, rfl⟩
      · rw [if_neg h1, if_neg h1]
        by_cases h2 : I0 > 1000000000000000
        · rw [if_pos h2, if_pos h2]; exact ⟨102, 0, rfl, rfl⟩
        · rw [if_neg h2, if_neg h2]; exact ⟨0, I0, rfl, rfl⟩
  · rw [if_neg hD, if_pos hD]
    exact ⟨D2, 0, rfl, by rw [if_neg hD]⟩
end Go.Proofs.YtaalnjfmcjdimaaGreat.E
/-
  What the document's machine answers. No condition but the sizes that any machine's memory has.
-/
namespace Go.Proofs.YtaalnjfmcjdimaaGreat.E
open Go
set_option linter.unusedVariables false
set_option linter.unusedSimpArgs false
set_option maxRecDepth 100000
theorem rWent {b q : List Int} (hb : Bl b) (hq : q.length ≤ 140737488355328) : N8 (b, q, ()) = some (runans b q) := by
  have e1 := rVerify hb
  have e2 := rDecode hb
  unfold N8 M8 runans
  simp only []
  rw [e1]
  by_cases hv : (vans b).2.1 = 0
  · rw [if_neg (by simpa using hv)]
    obtain ⟨p, S, H, pl, hr⟩ := runs_of hb.1 hv
    have e3 := rQty (q := q) (p := p) hq
    have hz : zp p = (p.1, p.2.1, p.2.2.1, p.2.2.2.1, p.2.2.2.2.1, p.2.2.2.2.2, ()) := rfl
    rw [hr.d] at e2
    rw [hr.v, hr.d]
    simp only [Option.bind_some]
    rw [bif_f (show ((0 : Int) != 0) = false from rfl), e2]
    simp only [Option.bind_some]
    rw [bif_ne]
    by_cases hn : (q.length : Int) = (p.2.2.1.length : Int)
    · rw [if_pos hn, if_neg (by simpa using hn)]
      rw [← hz, e3]
      cases hbad : (List.range' 0 q.length).any (fun j => badQty (q.getD j 0)) with
      | true => rfl
      | false =>
        simp only [cond_false, Option.bind_some]
        have g := hr.good (show q.length = p.2.2.1.length by omega) hbad
        have hm := chk_more hr.c
        have e4 := rPower hm.2.1
        rw [show (zp p).2.1 = p.2.1 from rfl, e4]
        simp only [Option.bind_some]
        have hA : At p pl [] 0 := ⟨Nat.zero_le _, by rw [hr.s.z]; rfl, fun x hx => by cases hx⟩
        have hsn := hr.s.R.n
        have e5 := itrs_eq (rLoop hr.s g p.2.2.2.2.2.length [] 0 0 (by omega) (by omega) hA) rfl (by omega)
        rw [show ((0 : Nat) : Int) = 0 from rfl] at e5
        have fin : ∀ r, runV p q (unitV p.2.1) p.2.2.2.2.2.length [] 0 0 = some r → ∃ x : Wd, r.1 = [x] ∧ ∃ e v, N16 (x, unitV p.2.1, p.1, ()) = some (v, e, ()) ∧ quotV x (unitV p.2.1) p.1 = (if e = 0 then (v, 0) else (0, 102)) := fun r hrun => by
          obtain ⟨r1, ⟨x, hx1, hx⟩, _⟩ := run_end hr.s g _ _ _ _ (by omega) hA r.1 r.2.1 r.2.2 hrun
          exact ⟨x, hx1, rRounded hx g.uw⟩
        generalize hR : runV p q (unitV p.2.1) p.2.2.2.2.2.length [] 0 0 = R at *
        generalize unitV p.2.1 = u at *
        obtain ⟨u0, u1⟩ := u
        obtain ⟨p0, p1, p2, p3, p4, p5⟩ := p
        unfold zp mc at *
        simp only [] at e5 fin ⊢
        cases R with
        | none =>
          rw [e5]
          rfl
        | some r =>
          rw [e5]
          obtain ⟨x, hx, e, v, f1, f2⟩ := fin r rfl
          obtain ⟨l', i', s'⟩ := r
          simp only at hx
          subst hx
          have hgx : ([x] : List Wd).getD 0 (0, 0) = x := rfl
          simp only [hgx]
          rw [f2]
          obtain ⟨x0, x1⟩ := x
          simp only [Option.bind_some, List.getElem?_cons_zero, List.length_singleton]
          rw [bif_t (c := true && decide ((0 : Int) < ((1 : Nat) : Int))) (by decide)]
          simp only [Option.bind_some]
          rw [f1]
          simp only [Option.bind_some]
          rw [bif_ne]
          by_cases he : e = 0
          · rw [if_pos he, if_pos he]
          · rw [if_neg he, if_neg he]
    · rw [if_neg hn, if_pos (by simpa using hn)]
  · rw [if_pos hv]
    generalize vans b = V at *
    obtain ⟨⟨V0, V1⟩, V2, ⟨⟩⟩ := V
    simp only [Option.bind_some] at hv ⊢
    rw [bif_ne, if_neg hv]
end Go.Proofs.YtaalnjfmcjdimaaGreat.E
/-
  VmPrograms, told plainly: the machine and the document's answer the same. No condition.
-/
namespace Go.Proofs.YtaalnjfmcjdimaaGreat.E
open Go
set_option linter.unusedVariables false
set_option linter.unusedSimpArgs false
set_option maxRecDepth 100000
theorem by_list : Program.bytesOf Tryz.prog 28 = 24 := by kernel_rfl
theorem pureVmPrograms : PVmPrograms := by
  intro p ls ⟨_, _, g1, g2, g3, g4, _⟩ h2
  obtain ⟨sp, wp⟩ := prg_wf g1 g2 g3 g4
  have e0 := eEncode sp wp.los
  unfold encans at e0
  unfold N4 M4
  by_cases hc : chk p = 0
  rotate_left
  · rw [bif_t (show (chk p != 0) = true from by simpa using hc)] at e0
    obtain ⟨p0, p1, p2, p3, p4, p5⟩ := p
    simp only [] at e0 ⊢
    rw [awake_yes]
    simp only [Option.bind_some, Bool.not_true, cond_false]
    rw [e0]
    simp only [Option.bind_some]
    rw [bif_ne, if_neg hc]
    rfl
  rw [hc] at e0
  simp only [bne_self_eq_false, cond_false] at e0
  have hb := bl_enc hc
  have lists : ∀ j (hj : j < ls.length), ls[j].length ≤ 140737488355328 := fun j hj => by
    have := (h2.2 _ (List.getElem_mem hj)).1
    rw [by_i64] at this
    omega
  have hlen : ls.length ≤ 140737488355328 := by have := h2.1; rw [by_list] at this; omega
  have lp : itrs R4_0 (ls, encB p, 0, ()) = some (.inl ()) := by
    refine itrs_seq (fun j => (ls, encB p, (j : Int), ())) (min ls.length 64) rfl (fun j hj => ?_) ?_ (by omega)
    · have hj1 : j < ls.length := by omega
      have hg := at_get hj1
      have e1 := vRunN (q := ls[j]) hb (lists j hj1)
      have e2 := vStepsN (q := ls[j]) hb (lists j hj1)
      have e3 := rWent (q := ls[j]) hb (lists j hj1)
      generalize runans (encB p) ls[j] = r at *
      obtain ⟨r0, r1, r2, ⟨⟩⟩ := r
      unfold R4_0 Q4_0
      simp only [] at e1 e2 e3 ⊢
      rw [hg, bif_t (c := decide ((j : Int) < (ls.length : Int))) (decide_eq_true (by omega)), bif_t (c := decide ((j : Int) < 64)) (decide_eq_true (by omega))]
      simp only [Option.bind_some]
      rw [e1]
      simp only [Option.bind_some]
      rw [e2]
      simp only [Option.bind_some]
      rw [e3]
      simp only [Option.bind_some, bne_self_eq_false, cond_false]
      rw [wsi (n := (j : Int) + 1) (by omega)]
      rfl
    · unfold R4_0 Q4_0
      simp only []
      by_cases h : ls.length ≤ 64
      · rw [Nat.min_eq_left h, bif_f (c := decide ((ls.length : Int) < (ls.length : Int))) (decide_eq_false (by omega))]
      · rw [Nat.min_eq_right (by omega), bif_t (c := decide (((64 : Nat) : Int) < (ls.length : Int))) (decide_eq_true (by omega)), bif_f (c := decide (((64 : Nat) : Int) < 64)) (decide_eq_false (by omega))]
  obtain ⟨p0, p1, p2, p3, p4, p5⟩ := p
  simp only [] at e0 ⊢
  rw [awake_yes]
  simp only [Option.bind_some, Bool.not_true, cond_false]
  rw [e0]
  simp only [Option.bind_some, bne_self_eq_false, cond_false]
  rw [lp]
  rfl
end Go.Proofs.YtaalnjfmcjdimaaGreat.E
namespace Go.Proofs.YtaalnjfmcjdimaaGreat.E.Row
open Go Go.ChangeShapes Go.WideShapes Go.ChangeAt Go.RowKit Go.Proofs.YtaalnjfmcjdimaaGreat
set_option linter.unusedVariables false
set_option maxRecDepth 100000
theorem own : ownKnob Tryz.prog.godebug = none := by kernel_rfl
theorem laidOut : laidOutB Tryz.prog = true := by kernel_rfl
theorem came28 : Came κ Tryz.prog 28 (.sl (τ := τ) 2) (fun a : (List Int) => (List.length a * Program.bytesOf Tryz.prog 2 ≤ 140737488351232 ∧ ∀ x ∈ a, (-9223372036854775808 ≤ x ∧ x ≤ 9223372036854775807))) := Came.slice (κ := κ) (e := 2) (Q := fun x : Int => (-9223372036854775808 ≤ x ∧ x ≤ 9223372036854775807)) Tryz.underlying28 (by kernel_rfl) (by kernel_rfl) rfl (show Came κ Tryz.prog 2 (κ 2) (fun x : Int => (-9223372036854775808 ≤ x ∧ x ≤ 9223372036854775807)) from (Came.i64 Tryz.underlying2))
theorem came53 : Came κ Tryz.prog 53 ((.pair (.int .i64) (.int .u64)) : K τ (Int × Int)) W53 := Came.struct Tryz.underlying53 (by kernel_rfl) (CameFs.cons (o1 := 1) (Q := fun x : Int => (-9223372036854775808 ≤ x ∧ x ≤ 9223372036854775807)) rfl (by kernel_rfl) rfl (Came.i64 Tryz.underlying2) (CameFs.one (Q := fun x : Int => (0 ≤ x ∧ x ≤ 18446744073709551615)) rfl (by kernel_rfl) (Came.u64 Tryz.underlying51)))
theorem came34 : Came κ Tryz.prog 34 (.sl (τ := τ) 53) (fun a : (List (Int × Int)) => (List.length a * Program.bytesOf Tryz.prog 53 ≤ 140737488351232 ∧ ∀ x ∈ a, W53 x)) := Came.slice (κ := κ) (e := 53) (Q := fun x : (Int × Int) => W53 x) Tryz.underlying34 (by kernel_rfl) (by kernel_rfl) rfl (show Came κ Tryz.prog 53 (κ 53) (fun x : (Int × Int) => W53 x) from came53)
theorem came64 : Came κ Tryz.prog 64 ((.pair (.int .i64) (.int .i64)) : K τ (Int × Int)) W64 := Came.struct Tryz.underlying64 (by kernel_rfl) (CameFs.cons (o1 := 1) (Q := fun x : Int => (-9223372036854775808 ≤ x ∧ x ≤ 9223372036854775807)) rfl (by kernel_rfl) rfl (Came.i64 Tryz.underlying2) (CameFs.one (Q := fun x : Int => (-9223372036854775808 ≤ x ∧ x ≤ 9223372036854775807)) rfl (by kernel_rfl) (Came.i64 Tryz.underlying2)))
theorem came62 : Came κ Tryz.prog 62 (.sl (τ := τ) 64) (fun a : (List (Int × Int)) => (List.length a * Program.bytesOf Tryz.prog 64 ≤ 140737488351232 ∧ ∀ x ∈ a, W64 x)) := Came.slice (κ := κ) (e := 64) (Q := fun x : (Int × Int) => W64 x) Tryz.underlying62 (by kernel_rfl) (by kernel_rfl) rfl (show Came κ Tryz.prog 64 (κ 64) (fun x : (Int × Int) => W64 x) from came64)
theorem came35 : Came κ Tryz.prog 35 (.sl (τ := τ) 62) (fun a : (List (List (Int × Int))) => (List.length a * Program.bytesOf Tryz.prog 62 ≤ 140737488351232 ∧ ∀ x ∈ a, (List.length x * Program.bytesOf Tryz.prog 64 ≤ 140737488351232 ∧ ∀ x' ∈ x, W64 x'))) := Came.slice (κ := κ) (e := 62) (Q := fun x : (List (Int × Int)) => (List.length x * Program.bytesOf Tryz.prog 64 ≤ 140737488351232 ∧ ∀ x' ∈ x, W64 x')) Tryz.underlying35 (by kernel_rfl) (by kernel_rfl) rfl (show Came κ Tryz.prog 62 (κ 62) (fun x : (List (Int × Int)) => (List.length x * Program.bytesOf Tryz.prog 64 ≤ 140737488351232 ∧ ∀ x' ∈ x, W64 x')) from came62)
theorem came44 : Came κ Tryz.prog 44 ((.pair (.int .i64) (.pair (.int .i64) (.int .i64))) : K τ (Int × (Int × Int))) W44 := Came.struct Tryz.underlying44 (by kernel_rfl) (CameFs.cons (o1 := 1) (Q := fun x : Int => (-9223372036854775808 ≤ x ∧ x ≤ 9223372036854775807)) rfl (by kernel_rfl) rfl (Came.i64 Tryz.underlying3) (CameFs.cons (o1 := 2) (Q := fun x : Int => (-9223372036854775808 ≤ x ∧ x ≤ 9223372036854775807)) rfl (by kernel_rfl) rfl (Came.i64 Tryz.underlying3) (CameFs.one (Q := fun x : Int => (-9223372036854775808 ≤ x ∧ x ≤ 9223372036854775807)) rfl (by kernel_rfl) (Came.i64 Tryz.underlying3))))
theorem came36 : Came κ Tryz.prog 36 (.sl (τ := τ) 44) (fun a : (List (Int × (Int × Int))) => (List.length a * Program.bytesOf Tryz.prog 44 ≤ 140737488351232 ∧ ∀ x ∈ a, W44 x)) := Came.slice (κ := κ) (e := 44) (Q := fun x : (Int × (Int × Int)) => W44 x) Tryz.underlying36 (by kernel_rfl) (by kernel_rfl) rfl (show Came κ Tryz.prog 44 (κ 44) (fun x : (Int × (Int × Int)) => W44 x) from came44)
theorem came38 : Came κ Tryz.prog 38 ((.pair (.int .i64) (.pair (.int .i64) (.pair (.sl (τ := τ) 2) (.pair (.sl (τ := τ) 53) (.pair (.sl (τ := τ) 62) (.sl (τ := τ) 44)))))) : K τ (Int × (Int × ((List Int) × ((List (Int × Int)) × ((List (List (Int × Int))) × (List (Int × (Int × Int))))))))) W38 := Came.struct Tryz.underlying38 (by kernel_rfl) (CameFs.cons (o1 := 1) (Q := fun x : Int => (-9223372036854775808 ≤ x ∧ x ≤ 9223372036854775807)) rfl (by kernel_rfl) rfl (Came.i64 Tryz.underlying3) (CameFs.cons (o1 := 2) (Q := fun x : Int => (-9223372036854775808 ≤ x ∧ x ≤ 9223372036854775807)) rfl (by kernel_rfl) rfl (Came.i64 Tryz.underlying3) (CameFs.cons (o1 := 3) (Q := fun x : (List Int) => (List.length x * Program.bytesOf Tryz.prog 2 ≤ 140737488351232 ∧ ∀ x' ∈ x, (-9223372036854775808 ≤ x' ∧ x' ≤ 9223372036854775807))) rfl (by kernel_rfl) rfl came28 (CameFs.cons (o1 := 4) (Q := fun x : (List (Int × Int)) => (List.length x * Program.bytesOf Tryz.prog 53 ≤ 140737488351232 ∧ ∀ x' ∈ x, W53 x')) rfl (by kernel_rfl) rfl came34 (CameFs.cons (o1 := 5) (Q := fun x : (List (List (Int × Int))) => (List.length x * Program.bytesOf Tryz.prog 62 ≤ 140737488351232 ∧ ∀ x' ∈ x, (List.length x' * Program.bytesOf Tryz.prog 64 ≤ 140737488351232 ∧ ∀ x'' ∈ x', W64 x''))) rfl (by kernel_rfl) rfl came35 (CameFs.one (Q := fun x : (List (Int × (Int × Int))) => (List.length x * Program.bytesOf Tryz.prog 44 ≤ 140737488351232 ∧ ∀ x' ∈ x, W44 x')) rfl (by kernel_rfl) came36))))))
theorem came23 : Came κ Tryz.prog 23 (.sl (τ := τ) 28) (fun a : (List (List Int)) => (List.length a * Program.bytesOf Tryz.prog 28 ≤ 140737488351232 ∧ ∀ x ∈ a, (List.length x * Program.bytesOf Tryz.prog 2 ≤ 140737488351232 ∧ ∀ x' ∈ x, (-9223372036854775808 ≤ x' ∧ x' ≤ 9223372036854775807)))) := Came.slice (κ := κ) (e := 28) (Q := fun x : (List Int) => (List.length x * Program.bytesOf Tryz.prog 2 ≤ 140737488351232 ∧ ∀ x' ∈ x, (-9223372036854775808 ≤ x' ∧ x' ≤ 9223372036854775807))) Tryz.underlying23 (by kernel_rfl) (by kernel_rfl) rfl (show Came κ Tryz.prog 28 (κ 28) (fun x : (List Int) => (List.length x * Program.bytesOf Tryz.prog 2 ≤ 140737488351232 ∧ ∀ x' ∈ x, (-9223372036854775808 ≤ x' ∧ x' ≤ 9223372036854775807))) from came28)
theorem lifted (os : Os) (started : os.Started) (H : Type) (enc : TypeId × Value → H) :
    ReturnsInHanded {} Tryz.checked os 4 .any (Rows.vmProgramsSpec.pre6 enc Tryz.prog Tryz.f4 Rows.vmProgramsRow.domain false) (Rows.vmProgramsSpec.post enc Tryz.prog Tryz.f4 false true false false) := by
  refine returnsInHanded_of_change_sized (C := Tryz.checked) own started (by kernel_rfl) Tryz.func4
    (ChangeSpec.witness6 (enc := enc) (C := Tryz.checked) false ⟨#[], #[(.agg #[(.int .i64 0), (.int .i64 0), (.slice none 0 0), (.slice none 0 0), (.slice none 0 0), (.slice none 0 0)]), (.slice none 0 0)], []⟩ 8 (by kernel_rfl) (by kernel_rfl) (by kernel_rfl) (by kernel_rfl)) ?_
  intro W base args ds gs before hval0 hW hcnd hsz0 _
  have hsz : (DataW.weightsEach Tryz.prog (Tryz.f4.params.toList ++ Rows.vmProgramsSpec.plain.varTypes Tryz.prog) (ds ++ gs)).all (· ≤ reachBytes) = true := hsz0
  have hval : ∀ (j : Nat) t v, Tryz.f4.params[j]? = some t → args[j]? = some v → Value.okWide Tryz.prog W .any base t v := hval0
  have hW' := hW
  obtain ⟨p, q, hA0, hV, rfl, hfz, hnd⟩ := hW
  have hA : DataW.TrodAll enc Tryz.prog W 0 (fun _ => true) true Tryz.f4.params.toList args.toList ds p := hA0
  rw [Tryz.params4] at hA hval hsz
  obtain ⟨v0, vs0, d0, ds0, p0, q0, hargs, rfl, rfl, h0, r0⟩ := trodAll_cons hA
  obtain ⟨v1, vs1, d1, ds1, p1, q1, rfl, rfl, rfl, h1, r1⟩ := trodAll_cons r0
  obtain ⟨rfl, rfl, rfl⟩ := trodAll_nil r1
  obtain rfl : args = #[v0, v1] := by cases args; simp_all
  obtain ⟨rfl, rfl⟩ := trodVars_none hV
  have hwt : ∀ (j : Nat) t d, [38, 23][j]? = some t → [d0, d1][j]? = some d → ∀ n ∈ DataW.weights Tryz.prog t d, n ≤ reachBytes := fun j t d h1 h2 n hn => by
    have := List.all_eq_true.1 hsz n (weights_each (j := j) (by simpa using (List.getElem?_append_left (l₂ := Rows.vmProgramsSpec.plain.varTypes Tryz.prog) (List.getElem?_eq_some_iff.1 h1).1).trans h1) (by simpa using h2) n hn)
    simpa using this
  have lt0 : ∀ x ∈ p0, x.block < W.heap.size := by obtain ⟨m, hm⟩ := h0; exact DataW.trod_lt m _ _ _ hm
  obtain ⟨a0, e0, y0⟩ := arg_agg Tryz.underlying38 rfl came38 (hval 0 38 v0 rfl rfl) h0 (hwt 0 38 d0 rfl rfl)
  have lt1 : ∀ x ∈ p1, x.block < W.heap.size := by obtain ⟨m, hm⟩ := h1; exact DataW.trod_lt m _ _ _ hm
  obtain ⟨a1, e1, y1⟩ := arg_slice Tryz.underlying23 came23 (hval 1 23 v1 rfl rfl) h1 (hwt 1 23 d1 rfl rfl)
  have hp : N4 (a0, a1, ()) = some (true, ()) := pureVmPrograms a0 a1 y0 y1
  refine (law_calls (i := i4) (n := N4) (F := Tryz.f4) (code := bodyOf Tryz.f4) s4 (by kernel_rfl) Tryz.func4 (by kernel_rfl) (by kernel_rfl) hp (argsK_cons e0 (argsK_cons e1 argsK_nil))).mono fun e W' ⟨he, bel⟩ => ?_
  subst he
  exact ⟨_, rfl, _, _, _, [], _, [], hW', trodAll_mk1 (shut_bool Tryz.underlying4 _), (trodAll_cons_mk (Below.trod laidOut (by kernel_rfl) (of_decide_eq_true (by kernel_rfl)) h0 bel lt0) (trodAll_cons_mk (Below.trod laidOut (by kernel_rfl) (of_decide_eq_true (by kernel_rfl)) h1 bel lt1) trodAll_mk0)), rfl, bel.frame _, fun h => by cases h⟩
theorem over : Rows.vmProgramsRow.holds Tryz.pinned (OpenSpec.ofChange Rows.vmProgramsSpec) :=
  OpenClaim.holds_of_wide 4 Tryz.f4 rfl rfl rfl rfl rfl rfl rfl ⟨rfl, rfl, rfl, rfl, rfl⟩ rfl rfl rfl rfl rfl (by kernel_rfl) Tryz.func4 (by kernel_rfl)
    (of_decide_eq_true (by kernel_rfl)) (by unfold Func.isWrapper; first | (rw [if_pos (by decide +kernel)]; kernel_rfl) | (rw [if_neg (by decide +kernel)]; exact ⟨rfl, rfl⟩))
    (fun os started H enc _ => lifted os started H enc)
theorem proved : Rows.VmProgramsSaid := over
end Go.Proofs.YtaalnjfmcjdimaaGreat.E.Row
namespace Go.Proofs.YtaalnjfmcjdimaaGreat
theorem vmPrograms_holds : Rows.VmProgramsSaid := YtaalnjfmcjdimaaGreat.E.Row.proved
#print axioms vmPrograms_holds
end Go.Proofs.YtaalnjfmcjdimaaGreat
