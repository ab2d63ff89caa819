/- The statement MeterScripts for every input: the plain facts on the functions' results, and the row. No condition. -/
import Derived.Test.YtedjdjngfdeheaaGF0
import Derived.Test.YtedjdjngfdeheaaGE2
import Derived.Laws.Strings
import Derived.Test.YtedjdjngfdeheaaRows
import Derived.Test.YtedjdjngfdeheaaChecked
namespace Go.Proofs.Ytedjdjngfdeheaa.E
open Go
def W29 (a : (ByteArray × (Int × (Int × Int)))) : Prop := (ByteArray.size a.1 ≤ 140737488351232) ∧ (-9223372036854775808 ≤ a.2.1 ∧ a.2.1 ≤ 9223372036854775807) ∧ (-9223372036854775808 ≤ a.2.2.1 ∧ a.2.2.1 ≤ 9223372036854775807) ∧ (-9223372036854775808 ≤ a.2.2.2 ∧ a.2.2.2 ≤ 9223372036854775807)
def W43 (a : (Int × ((ByteArray × (Int × (Int × Int))) × (Int × Int)))) : Prop := (-9223372036854775808 ≤ a.1 ∧ a.1 ≤ 9223372036854775807) ∧ W29 a.2.1 ∧ (-9223372036854775808 ≤ a.2.2.1 ∧ a.2.2.1 ≤ 9223372036854775807) ∧ (-9223372036854775808 ≤ a.2.2.2 ∧ a.2.2.2 ≤ 9223372036854775807)
def PMeterScripts : Prop := ∀ (a0 : (List (Int × ((ByteArray × (Int × (Int × Int))) × (Int × Int))))), (List.length a0 * Program.bytesOf Try.prog 43 ≤ 140737488351232 ∧ ∀ x ∈ a0, W43 x) → N6 (a0, ()) = some (true, ())
end Go.Proofs.Ytedjdjngfdeheaa.E
/-
  Readings: what is recorded, used, forgotten. No condition but the sizes that any machine's memory has.
-/
namespace Go.Proofs.Ytedjdjngfdeheaa.E
open Go
set_option linter.unusedVariables false
set_option linter.unusedSimpArgs false
set_option maxRecDepth 100000
abbrev Rd : Type := ByteArray × Int × Int × Int
def isK (k : ByteArray) (r : Rd) : Bool := ByteArray.toList r.1 == ByteArray.toList k
def inU (k : ByteArray) (dim f t : Int) (r : Rd) : Bool := isK k r && r.2.1 == dim && decide (r.2.2.1 ≥ f) && decide (r.2.2.1 < t)
/-- The sum of some readings. -/
def usedV (p : Rd → Bool) : List Rd → Int
  | [] => 0
  | r :: l => (bif p r then r.2.2.2 else 0) + usedV p l
/-- Record's error; 0 if the reading is taken. -/
def recE (r : Rd) (n : Nat) : Int :=
  if (r.1.size : Int) < 1 then 1 else if (r.1.size : Int) > 32 then 1 else if r.2.1 < 0 then 1 else if r.2.1 ≥ 4 then 1 else if r.2.2.1 < 0 then 221 else if r.2.2.1 > 1000000 then 221 else if r.2.2.2 < 0 then 101 else if r.2.2.2 > 1099511627776 then 101 else if (n : Int) ≥ 4096 then 3 else 0
/-- A reading that is held. -/
def Held (r : Rd) : Prop := (1 ≤ r.1.size ∧ r.1.size ≤ 32) ∧ (0 ≤ r.2.1 ∧ r.2.1 ≤ 3) ∧ (0 ≤ r.2.2.1 ∧ r.2.2.1 ≤ 1000000) ∧ (0 ≤ r.2.2.2 ∧ r.2.2.2 ≤ 1099511627776)
theorem recE_held {r : Rd} {n : Nat} (h : recE r n = 0) : Held r ∧ n < 4096 := by
  unfold recE at h
  unfold Held
  repeat' split at h
  all_goals first | (exfalso; omega) | omega
def recV (L : List Rd) (r : Rd) : List Rd := if recE r L.length = 0 then L ++ [r] else L
theorem mRecord {L : List Rd} (hL : L.length ≤ 1000000) (r : Rd) : N9 ((L, ()), r, ()) = some (recE r L.length, (recV L r, ()), ()) := by
  obtain ⟨k, dim, day, am⟩ := r
  unfold N9 M9 recV
  have hb : decide ((L.length + 1) * 40 ≤ 210000000000000) = true := decide_eq_true (by omega)
  simp only [hb, cond_true, Option.bind_some, bif_p]
  unfold recE
  simp only
  repeat' split
  all_goals first | rfl | (exfalso; omega)
theorem mCount (L : List Rd) : N10 (L, ()) = some ((L.length : Int), ()) := rfl
theorem usedV_app (p : Rd → Bool) : ∀ (a b : List Rd), usedV p (a ++ b) = usedV p a + usedV p b
  | [], b => by simp [usedV]
  | r :: a, b => by simp only [List.cons_append, usedV, usedV_app p a b]; omega
theorem usedV_in (p : Rd → Bool) : ∀ (l : List Rd), (∀ r ∈ l, Held r) → 0 ≤ usedV p l ∧ usedV p l ≤ l.length * 1099511627776
  | [], _ => by simp [usedV]
  | r :: l, h => by
    have ih := usedV_in p l fun x hx => h x (List.mem_cons_of_mem _ hx)
    have hr := (h r (by simp)).2.2.2
    simp only [usedV, List.length_cons]
    cases p r <;> simp only [cond_true, cond_false] <;> omega
theorem usedV_take {p : Rd → Bool} {l : List Rd} {j : Nat} (h : j < l.length) : usedV p (l.take (j + 1)) = usedV p (l.take j) + (bif p l[j] then l[j].2.2.2 else 0) := by
  rw [← List.take_append_getElem (l := l) (h := h), usedV_app]
  simp [usedV]
theorem mUsed {L : List Rd} (hL : L.length ≤ 1000000) (hh : ∀ r ∈ L, Held r) (k : ByteArray) (dim f t : Int) : N11 (L, k, dim, f, t, ()) = some (usedV (inU k dim f t) L, ()) := by
  have lp : itrs R11_0 (k, dim, f, t, 0, L, (L.length : Int), 0, ()) = some (usedV (inU k dim f t) L, ()) := by
    refine itrs_seq (fun j => (k, dim, f, t, usedV (inU k dim f t) (L.take j), L, (L.length : Int), (j : Int), ())) L.length rfl (fun j hj => ?_) ?_ (by omega)
    · have hg := at_get hj
      have hn := usedV_in (inU k dim f t) (L.take (j + 1)) fun r hr => hh r (List.mem_of_mem_take hr)
      have hlen : ((L.take (j + 1)).length : Int) = (j : Int) + 1 := by rw [List.length_take]; omega
      have ht := usedV_take (p := inU k dim f t) hj
      rw [ht] at hn ⊢
      rw [hlen] at hn
      unfold R11_0 Q11_0
      generalize usedV (inU k dim f t) (L.take j) = s at *
      simp only []
      rw [bif_t (c := decide ((j : Int) < (L.length : Int))) (decide_eq_true (by omega)), hg]
      simp only [Option.bind_some]
      rw [wsi (n := (j : Int) + 1) (by omega)]
      generalize L[j] = r at *
      unfold inU isK at *
      cases h1 : (ByteArray.toList r.1 == ByteArray.toList k) with
      | false => simp
      | true =>
        cases h2 : (r.2.1 == dim) with
        | false => simp
        | true =>
          cases h3 : decide (r.2.2.1 ≥ f) with
          | false => simp
          | true =>
            cases h4 : decide (r.2.2.1 < t) with
            | false => simp
            | true =>
              simp only [h1, h2, h3, h4, Bool.and_self, cond_true] at hn ⊢
              rw [wsi (n := s + r.2.2.2) (by omega)]
              rfl
    · rw [List.take_length]
      unfold R11_0 Q11_0
      simp only []
      rw [bif_f (c := decide ((L.length : Int) < (L.length : Int))) (decide_eq_false (by omega))]
  unfold N11 M11
  simp only []
  rw [show N18 (L, ()) = some (L, ()) from rfl]
  simp only [Option.bind_some]
  rw [lp]
  rfl
/-! ### what is forgotten -/
theorem usedV_filter (p q : Rd → Bool) : ∀ (l : List Rd), usedV p (l.filter q) = usedV (fun r => p r && q r) l
  | [] => rfl
  | r :: l => by
    rw [List.filter_cons]
    cases h : q r with
    | true => simp only [if_true, usedV, usedV_filter p q l, h, Bool.and_true]
    | false => simp [usedV, usedV_filter p q l, h]
theorem usedV_congr {p q : Rd → Bool} : ∀ {l : List Rd}, (∀ r ∈ l, p r = q r) → usedV p l = usedV q l
  | [], _ => rfl
  | r :: l, h => by
    simp only [usedV]
    rw [h r (by simp), usedV_congr fun x hx => h x (List.mem_cons_of_mem _ hx)]
theorem usedV_none {p : Rd → Bool} : ∀ {l : List Rd}, (∀ r ∈ l, p r = false) → usedV p l = 0
  | [], _ => rfl
  | r :: l, h => by
    simp only [usedV]
    rw [h r (by simp), usedV_none fun x hx => h x (List.mem_cons_of_mem _ hx)]
    rfl
theorem usedV_sum {p a b : Rd → Bool} : ∀ {l : List Rd}, (∀ r ∈ l, (p r = (a r || b r)) ∧ (a r && b r) = false) → usedV p l = usedV a l + usedV b l
  | [], _ => rfl
  | r :: l, h => by
    obtain ⟨h1, h2⟩ := h r (by simp)
    simp only [usedV]
    rw [usedV_sum fun x hx => h x (List.mem_cons_of_mem _ hx), h1]
    cases ha : a r <;> cases hb : b r <;> simp [ha, hb] at h2 ⊢ <;> omega
end Go.Proofs.Ytedjdjngfdeheaa.E
/-
  Readings forgotten: Go's DeleteFunc. No condition but the list's length.
-/
namespace Go.Proofs.Ytedjdjngfdeheaa.E
open Go
set_option linter.unusedVariables false
set_option linter.unusedSimpArgs false
set_option maxRecDepth 100000
/-- Is it a reading of the key, ahead of a day? -/
def gone (k : ByteArray) (before : Int) (r : Rd) : Bool := isK k r && decide (r.2.2.1 < before)
theorem mGone (k : ByteArray) (before : Int) (r : Rd) : N20 (r, k, before, ()) = some (gone k before r, ()) := by
  obtain ⟨a, b, c, d⟩ := r
  unfold N20 M20 gone isK
  simp only []
  cases (ByteArray.toList a == ByteArray.toList k) <;> rfl
/-- The place of the first one, or -1. -/
def idxV (p : Rd → Bool) (L : List Rd) : Int := match L.findIdx? p with | some i => (i : Int) | none => -1
theorem mIndex_loop (L : List Rd) (hL : L.length ≤ 1000000) (k : ByteArray) (before : Int) : ∀ (n i : Nat), i + n = L.length → (∀ j (h : j < i) (h2 : j < L.length), gone k before L[j] = false) →
    itr R30_0 (n + 1) (L, (k, before), (L.length : Int), (i : Int), ()) = some (match L.findIdx? (gone k before) with | some i => .inr ((i : Int), ()) | none => .inl ())
  | 0, i, h, hp => by
    have hno : L.findIdx? (gone k before) = none := by
      rw [List.findIdx?_eq_none_iff]
      intro r hr
      obtain ⟨j, hj, rfl⟩ := List.getElem_of_mem hr
      exact hp j (by omega) hj
    rw [hno]
    refine itr_out ?_
    unfold R30_0 Q30_0
    simp only []
    rw [bif_f (c := decide ((i : Int) < (L.length : Int))) (decide_eq_false (by omega))]
  | n + 1, i, h, hp => by
    have hi : i < L.length := by omega
    have hg := at_get hi
    have hro : R30_0 (L, (k, before), (L.length : Int), (i : Int), ()) = bif gone k before L[i] then some (.inr (.inr ((i : Int), ()))) else some (.inl (L, (k, before), (L.length : Int), ((i + 1 : Nat) : Int), ())) := by
      unfold R30_0 Q30_0
      simp only []
      rw [bif_t (c := decide ((i : Int) < (L.length : Int))) (decide_eq_true (by omega)), hg]
      simp only [Option.bind_some]
      rw [mGone k before L[i]]
      simp only [Option.bind_some]
      rw [wsi (n := (i : Int) + 1) (by omega)]
      rfl
    cases hc : gone k before L[i] with
    | true =>
      rw [hc, cond_true] at hro
      have hyes : L.findIdx? (gone k before) = some i := by
        rw [List.findIdx?_eq_some_iff_getElem]
        exact ⟨hi, hc, fun j hj => by rw [hp j hj (by omega)]; decide⟩
      rw [hyes]
      exact itr_out hro
    | false =>
      rw [hc, cond_false] at hro
      rw [itr_in hro]
      refine mIndex_loop L hL k before n (i + 1) (by omega) fun j hj h2 => ?_
      rcases Nat.lt_or_ge j i with h3 | h3
      · exact hp j h3 h2
      · obtain rfl : j = i := by omega
        exact hc
theorem mIndex {L : List Rd} (hL : L.length ≤ 1000000) (k : ByteArray) (before : Int) : N30 (L, (k, before), ()) = some (idxV (gone k before) L, ()) := by
  have h := itrs_eq (mIndex_loop L hL k before L.length 0 (by omega) (fun j hj => by omega)) rfl (by omega)
  rw [show ((0 : Nat) : Int) = 0 from rfl] at h
  unfold N30 M30 idxV
  simp only []
  rw [h]
  cases L.findIdx? (gone k before) <;> rfl
theorem filter_take {p : Rd → Bool} {l : List Rd} {j : Nat} (h : j < l.length) : (l.take (j + 1)).filter p = (l.take j).filter p ++ (bif p l[j] then [l[j]] else []) := by
  rw [← List.take_append_getElem (l := l) (h := h), List.filter_append, List.filter_cons]
  cases p l[j] <;> rfl
/-- What is kept moves to the front. -/
theorem mDel_loop (o : List Rd) (ho : o.length ≤ 1000000) (k : ByteArray) (before : Int) : ∀ (n j : Nat) (s : List Rd), j + n = o.length → s.length = o.length → s.take ((o.take j).filter fun r => !(gone k before r)).length = (o.take j).filter (fun r => !(gone k before r)) → s.drop j = o.drop j → ((o.take j).filter fun r => !(gone k before r)).length < j →
    ∃ s', itr R19_0 (n + 1) (s, (k, before), (((o.take j).filter fun r => !(gone k before r)).length : Int), (j : Int), ()) = some (s', ((o.filter fun r => !(gone k before r)).length : Int), ()) ∧ s'.length = o.length ∧ s'.take (o.filter fun r => !(gone k before r)).length = o.filter fun r => !(gone k before r)
  | 0, j, s, h, hs, h1, h2, h3 => by
    have e : o.take j = o := List.take_of_length_le (by omega)
    rw [e] at h1 h3 ⊢
    refine ⟨s, itr_out ?_, hs, h1⟩
    unfold R19_0 Q19_0
    simp only []
    rw [bif_f (c := decide ((j : Int) < (s.length : Int))) (decide_eq_false (by omega))]
  | n + 1, j, s, h, hs, h1, h2, h3 => by
    have hj : j < o.length := by omega
    have hjs : j < s.length := by omega
    have hsj : s[j] = o[j] := by
      have := congrArg (·[0]?) h2
      simp only [List.getElem?_drop, Nat.add_zero] at this
      rw [List.getElem?_eq_getElem hjs, List.getElem?_eq_getElem hj] at this
      exact Option.some.inj this
    have hft := filter_take (p := fun r => !(gone k before r)) hj
    have hcut : s.drop (j + 1) = o.drop (j + 1) := by
      have := congrArg (List.drop 1) h2
      simpa [List.drop_drop] using this
    generalize hF : (o.take j).filter (fun r => !(gone k before r)) = F at *
    have hFi : F.length < s.length := by omega
    have head : R19_0 (s, (k, before), (F.length : Int), (j : Int), ()) = bif gone k before o[j] then some (.inl (s, (k, before), (F.length : Int), ((j + 1 : Nat) : Int), ())) else some (.inl (s.set F.length o[j], (k, before), ((F.length + 1 : Nat) : Int), ((j + 1 : Nat) : Int), ())) := by
      unfold R19_0 Q19_0
      simp only []
      rw [bif_t (c := decide ((j : Int) < (s.length : Int))) (decide_eq_true (by omega)), bif_t (c := decide (0 ≤ (j : Int)) && decide ((j : Int) < (s.length : Int))) (by rw [decide_eq_true (by omega), decide_eq_true (by omega)]; rfl), Int.toNat_natCast, List.getElem?_eq_getElem hjs, hsj]
      simp only [Option.bind_some]
      rw [mGone k before o[j]]
      simp only [Option.bind_some]
      rw [bif_t (c := decide (0 ≤ (F.length : Int)) && decide ((F.length : Int) < (s.length : Int))) (by rw [decide_eq_true (by omega), decide_eq_true (by omega)]; rfl), Int.toNat_natCast, List.getElem?_eq_getElem hFi, wsi (n := (j : Int) + 1) (by omega), wsi (n := (F.length : Int) + 1) (by omega)]
      cases gone k before o[j] <;> rfl
    cases hg : gone k before o[j] with
    | true =>
      rw [hg, cond_true] at head
      rw [hg] at hft
      have hft : (o.take (j + 1)).filter (fun r => !(gone k before r)) = F := by rw [hft]; simp
      have ih := mDel_loop o ho k before n (j + 1) s (by omega) hs (by rw [hft]; exact h1) hcut (by rw [hft]; omega)
      rw [hft] at ih
      rw [itr_in head]
      exact ih
    | false =>
      rw [hg, cond_false] at head
      rw [hg] at hft
      have hft : (o.take (j + 1)).filter (fun r => !(gone k before r)) = F ++ [o[j]] := by rw [hft]; rfl
      have ih := mDel_loop o ho k before n (j + 1) (s.set F.length o[j]) (by omega) (by rw [List.length_set]; exact hs) (by
        rw [hft, List.length_append, List.length_singleton, ← List.take_append_getElem (l := s.set F.length o[j]) (h := by rw [List.length_set]; exact hFi), List.take_set_of_le (by omega), h1, List.getElem_set_self]) (by
        rw [List.drop_set_of_lt (by omega)]
        exact hcut) (by rw [hft, List.length_append, List.length_singleton]; omega)
      rw [hft, List.length_append, List.length_singleton] at ih
      rw [itr_in head]
      exact ih
theorem mDelete {L : List Rd} (hL : L.length ≤ 1000000) (k : ByteArray) (before : Int) : N19 (L, (k, before), ()) = some (L.filter (fun r => !(gone k before r)), ()) := by
  have e1 := mIndex hL k before
  unfold N19 M19
  simp only []
  rw [e1]
  simp only [Option.bind_some]
  unfold idxV
  cases hf : L.findIdx? (gone k before) with
  | none =>
    rw [List.findIdx?_eq_none_iff] at hf
    have : L.filter (fun r => !(gone k before r)) = L := List.filter_eq_self.2 fun r hr => by rw [hf r hr]; rfl
    rw [this]
    rfl
  | some i =>
    rw [List.findIdx?_eq_some_iff_getElem] at hf
    obtain ⟨hi, hgi, hlt⟩ := hf
    have hpre : (L.take i).filter (fun r => !(gone k before r)) = L.take i := List.filter_eq_self.2 fun r hr => by
      obtain ⟨j, hj, rfl⟩ := List.getElem_of_mem hr
      rw [List.getElem_take]
      have hj : j < i := by rw [List.length_take] at hj; omega
      have := hlt j hj
      simpa using this
    have hft := filter_take (p := fun r => !(gone k before r)) hi
    rw [hgi, hpre] at hft
    have hft : (L.take (i + 1)).filter (fun r => !(gone k before r)) = L.take i := by rw [hft]; simp
    have hl : (L.take i).length = i := by rw [List.length_take]; omega
    obtain ⟨s', lp, ls, lt⟩ := mDel_loop L hL k before (L.length - (i + 1)) (i + 1) L (by omega) rfl (by rw [hft, hl]) rfl (by rw [hft, hl]; omega)
    rw [hft, hl] at lp
    have lp := itrs_eq lp rfl (by omega)
    simp only
    rw [bif_f (c := ((i : Int) == -1)) (by simp), wsi (n := (i : Int) + 1) (by omega), show (i : Int) + 1 = ((i + 1 : Nat) : Int) by omega, lp]
    simp only [Option.bind_some]
    have hle : (L.filter (fun r => !(gone k before r))).length ≤ L.length := List.length_filter_le _ _
    generalize L.filter (fun r => !(gone k before r)) = F at *
    rw [bif_t (c := decide (0 ≤ (F.length : Int)) && decide ((F.length : Int) ≤ (s'.length : Int)) && decide ((s'.length : Int) ≤ (s'.length : Int))) (by rw [decide_eq_true (by omega), decide_eq_true (by omega), decide_eq_true (by omega)]; rfl)]
    simp only [Option.bind_some, Int.toNat_natCast]
    rw [bif_t (c := Nat.ble (F.length + (s'.length - F.length)) s'.length) (Nat.ble_eq_true_of_le (by omega))]
    simp only [Option.bind_some, Nat.sub_zero]
    have hq : (s'.take F.length ++ List.replicate (s'.length - F.length) (({ data := #[] }, 0, 0, 0) : Rd) ++ s'.drop (F.length + (s'.length - F.length))).length = s'.length := by simp; omega
    have hz : (s'.take F.length ++ List.replicate (s'.length - F.length) (({ data := #[] }, 0, 0, 0) : Rd) ++ s'.drop (F.length + (s'.length - F.length))).take F.length = F := by
      rw [List.append_assoc, List.take_append_of_le_length (by rw [List.length_take]; omega), List.take_take, Nat.min_self, lt]
    rw [bif_t (c := true && decide (0 ≤ (F.length : Int)) && decide ((F.length : Int) ≤ _)) (by rw [decide_eq_true (by omega), decide_eq_true (by rw [hq]; omega)]; rfl)]
    simp only [Option.bind_some]
    rw [bif_t (c := Nat.ble F.length _) (Nat.ble_eq_true_of_le (by rw [hq]; omega))]
    simp only [Option.bind_some]
    rw [hz]
theorem mForget {L : List Rd} (hL : L.length ≤ 1000000) (k : ByteArray) (before : Int) : N12 ((L, ()), k, before, ()) = some ((L.length : Int) - ((L.filter (fun r => !(gone k before r))).length : Int), (L.filter (fun r => !(gone k before r)), ()), ()) := by
  have hle : (L.filter (fun r => !(gone k before r))).length ≤ L.length := List.length_filter_le _ _
  unfold N12 M12
  simp only []
  rw [mDelete hL k before]
  simp only [Option.bind_some]
  rw [wsi (by omega)]
end Go.Proofs.Ytedjdjngfdeheaa.E
/-
  All: the readings in order; the same readings. No condition but the sizes that any machine's memory has.
-/
namespace Go.Proofs.Ytedjdjngfdeheaa.E
open Go
set_option linter.unusedVariables false
set_option linter.unusedSimpArgs false
set_option maxRecDepth 100000
def recs (l : List Rd) : List Rd := l.foldl recV []
theorem recs_take {l : List Rd} {j : Nat} (h : j < l.length) : recs (l.take (j + 1)) = recV (recs (l.take j)) l[j] := by
  unfold recs
  rw [← List.take_append_getElem (l := l) (h := h), List.foldl_append]
  rfl
theorem recV_in {L : List Rd} {r : Rd} {n : Nat} (h : L.length ≤ n ∧ ∀ x ∈ L, Held x) : (recV L r).length ≤ n + 1 ∧ ∀ x ∈ recV L r, Held x := by
  unfold recV
  split
  · rename_i hc
    refine ⟨by rw [List.length_append, List.length_singleton]; omega, fun x hx => ?_⟩
    rcases List.mem_append.1 hx with hx | hx
    · exact h.2 x hx
    · rw [List.mem_singleton] at hx
      rw [hx]; exact (recE_held hc).1
  · exact ⟨by omega, h.2⟩
theorem recs_in (l : List Rd) : ∀ j, j ≤ l.length → (recs (l.take j)).length ≤ j ∧ ∀ x ∈ recs (l.take j), Held x
  | 0, _ => ⟨Nat.le_refl 0, fun x hx => by cases hx⟩
  | j + 1, h => by
    rw [recs_take (by omega)]
    exact recV_in (recs_in l j (by omega))
theorem mAwake : N7 () = some (true, ()) := by kernel_rfl
theorem sortV_len (l : List Rd) : (sortV cmpV l).length = l.length := by unfold sortV; exact List.length_mergeSort l
theorem mClone {L : List Rd} (hL : L.length ≤ 1000000) : (cCloneG (e := 29) (F := N21) (τ := τ)).f (L, ()) = some (L, ()) := by
  show (bif L.isEmpty then some ([], ()) else N21 (L, ())) = _
  cases hl : L.isEmpty with
  | true =>
    cases L with
    | nil => rfl
    | cons a l => cases hl
  | false =>
    rw [cond_false]
    unfold N21 M21
    simp only [hl]
    rw [decide_eq_true (by omega)]
    simp
theorem mSort {L : List Rd} (hL : L.length ≤ 1000000) : (cSortG (e := 29) (g := 23) (cf := cmpV) (τ := τ)).f (L, (), ()) = some (sortV cmpV L, ()) := by
  show (bif decide (L.length ≤ 4611686018427387903) then some (sortV cmpV L, ()) else none) = _
  rw [decide_eq_true (by omega)]
  rfl
theorem all_of {L S : List Rd} {c1 : List Rd × Unit → Option (List Rd × Unit)} {c2 : List Rd × Unit × Unit → Option (List Rd × Unit)} (h1 : c1 (L, ()) = some (L, ())) (h2 : c2 (L, (), ()) = some (S, ())) : M14 N18 c1 c2 N23 (L, ()) = some (S, ()) := by
  unfold M14
  simp only []
  rw [show N18 (L, ()) = some (L, ()) from rfl]
  simp only [Option.bind_some]
  rw [h1]
  simp only [Option.bind_some]
  rw [h2]
  rfl
theorem mAll {L : List Rd} (hL : L.length ≤ 1000000) : N14 (L, ()) = some (sortV cmpV L, ()) := all_of (mClone hL) (mSort hL)
/-- The same readings: yes, of a list and itself. -/
theorem mSame {L : List Rd} (hL : L.length ≤ 1000000) : N13 (L, L, ()) = some (true, ()) := by
  have lp : itrs R13_0 (L, L, 0, ()) = some (.inl ()) := by
    refine itrs_seq (fun j => (L, L, (j : Int), ())) L.length rfl (fun j hj => ?_) ?_ (by omega)
    · have hg := at_get hj
      unfold R13_0 Q13_0
      simp only []
      rw [bif_t (c := decide ((j : Int) < (L.length : Int))) (decide_eq_true (by omega)), hg]
      simp only [Option.bind_some]
      rw [wsi (n := (j : Int) + 1) (by omega)]
      simp
    · unfold R13_0 Q13_0
      simp only []
      rw [bif_f (c := decide ((L.length : Int) < (L.length : Int))) (decide_eq_false (by omega))]
  unfold N13 M13
  simp only [bne_self_eq_false, cond_false]
  rw [lp]
  rfl
end Go.Proofs.Ytedjdjngfdeheaa.E
/-
  Sorted lists of readings: one for each bag. What is recorded does not hang on the order. No condition.
-/
namespace Go.Proofs.Ytedjdjngfdeheaa.E
open Go Go.Shelf Go.RowKit Go.Lib Go.Sort
set_option linter.unusedVariables false
set_option linter.unusedSimpArgs false
def leR (x y : Rd) : Bool := !bef y x
theorem leR_trans (x y z : Rd) (h1 : leR x y = true) (h2 : leR y z = true) : leR x z = true := by
  unfold leR at *
  simp only [Bool.not_eq_true'] at *
  exact totR.swo.ntrans z y x h2 h1
theorem leR_total (x y : Rd) : (leR x y || leR y x) = true := by
  unfold leR
  cases h1 : bef y x with
  | false => rfl
  | true =>
    cases h2 : bef x y with
    | false => rfl
    | true => have := totR.trans x y x h2 h1; rw [totR.irr] at this; cases this
theorem leR_anti (x y : Rd) (h1 : leR x y = true) (h2 : leR y x = true) : x = y := by
  unfold leR at *
  simp only [Bool.not_eq_true'] at *
  exact totR.tri x y h2 h1
theorem sortV_le (l : List Rd) : sortV cmpV l = l.mergeSort leR := by
  unfold sortV
  rw [ltV]
  rfl
theorem sorted_one : ∀ {a b : List Rd}, a.Perm b → a.Pairwise (fun x y => leR x y = true) → b.Pairwise (fun x y => leR x y = true) → a = b
  | [], b, h, _, _ => (List.nil_perm.1 h).symm
  | x :: a, [], h, _, _ => absurd h.length_eq (by simp)
  | x :: a, y :: b, h, ha, hb => by
    have ha' := List.pairwise_cons.1 ha
    have hb' := List.pairwise_cons.1 hb
    have e : x = y := by
      have m1 : x ∈ y :: b := h.subset (by simp)
      have m2 : y ∈ x :: a := h.symm.subset (by simp)
      rcases List.mem_cons.1 m1 with m1 | m1
      · exact m1
      · rcases List.mem_cons.1 m2 with m2 | m2
        · exact m2.symm
        · exact leR_anti x y (ha'.1 y m2) (hb'.1 x m1)
    subst e
    rw [sorted_one (List.Perm.cons_inv h) ha'.2 hb'.2]
theorem sortV_perm {a b : List Rd} (h : a.Perm b) : sortV cmpV a = sortV cmpV b := by
  rw [sortV_le, sortV_le]
  exact sorted_one ((List.mergeSort_perm a leR).trans (h.trans (List.mergeSort_perm b leR).symm)) (List.pairwise_mergeSort leR_trans leR_total a) (List.pairwise_mergeSort leR_trans leR_total b)
theorem usedV_perm {p : Rd → Bool} {a b : List Rd} (h : a.Perm b) : usedV p a = usedV p b := by
  induction h with
  | nil => rfl
  | cons x _ ih => simp only [usedV, ih]
  | swap x y l => simp only [usedV]; omega
  | trans _ _ h1 h2 => rw [h1, h2]
/-- Is it taken by a meter that is not full? -/
def okR (r : Rd) : Bool := recE r 0 == 0
theorem recE_ok {r : Rd} {n : Nat} (h : n < 4096) : recE r n = recE r 0 := by
  unfold recE
  repeat' split
  all_goals first | rfl | omega
theorem recV_ok {L : List Rd} {r : Rd} (h : L.length < 4096) : recV L r = if okR r = true then L ++ [r] else L := by
  unfold recV okR
  rw [recE_ok h]
  by_cases hc : recE r 0 = 0
  · rw [if_pos hc, if_pos (by simp [hc])]
  · rw [if_neg hc, if_neg (by simp [hc])]
theorem recs_filter : ∀ (l acc : List Rd), acc.length + l.length ≤ 4096 → l.foldl recV acc = acc ++ l.filter okR
  | [], acc, _ => by simp
  | r :: l, acc, h => by
    simp only [List.length_cons] at h
    rw [List.foldl_cons, List.filter_cons, recV_ok (by omega)]
    by_cases hc : okR r = true
    · rw [if_pos hc, if_pos hc, recs_filter l (acc ++ [r]) (by rw [List.length_append, List.length_singleton]; omega)]
      simp
    · rw [if_neg hc, if_neg hc, recs_filter l acc (by omega)]
end Go.Proofs.Ytedjdjngfdeheaa.E
/-
  The reference's meter: a sorted list. No condition but the sizes that any machine's memory has.
-/
namespace Go.Proofs.Ytedjdjngfdeheaa.E
open Go
set_option linter.unusedVariables false
set_option linter.unusedSimpArgs false
set_option maxRecDepth 100000
theorem rFault {L : List Rd} (hL : L.length ≤ 1000000) (r : Rd) : N28 (L, r, ()) = some (recE r L.length, ()) := by
  obtain ⟨k, dim, day, am⟩ := r
  unfold N28 M28 recE
  simp only [bif_p]
  by_cases h0 : k.size = 0
  · rw [bif_t (by simp [h0]), if_pos (show (k.size : Int) < 1 by omega)]
  · rw [bif_f (by simp [h0]), if_neg (show ¬ (k.size : Int) < 1 by omega)]
    repeat' split
    all_goals first | rfl | (exfalso; omega)
theorem rBefore (a b : Rd) : N29 (a, b, ()) = some (bef a b, ()) := by
  obtain ⟨a1, a2, a3, a4⟩ := a
  obtain ⟨b1, b2, b3, b4⟩ := b
  unfold N29 M29 bef lexL ltB
  simp only []
  cases hk : (ByteArray.toList a1 == ByteArray.toList b1) with
  | false =>
    simp only [Bool.not_false, cond_true]
    have hne : ByteArray.toList a1 ≠ ByteArray.toList b1 := by rw [← beq_eq_false_iff_ne]; exact hk
    cases h1 : Op.bytesLess (ByteArray.toList a1) (ByteArray.toList b1) with
    | true => rfl
    | false =>
      cases h2 : Op.bytesLess (ByteArray.toList b1) (ByteArray.toList a1) with
      | true => rfl
      | false => exact absurd (totL.tri _ _ h1 h2) hne
  | true =>
    rw [beq_iff_eq] at hk
    rw [hk, totL.irr]
    simp only [Bool.not_true, cond_false, Bool.false_or, Bool.not_false, Bool.true_and]
    unfold ltI
    by_cases h2 : a2 = b2
    · subst h2
      rw [bif_f (c := a2 != a2) (by simp), show decide (a2 < a2) = false from decide_eq_false (by omega)]
      by_cases h3 : a3 = b3
      · subst h3
        rw [bif_f (c := a3 != a3) (by simp), show decide (a3 < a3) = false from decide_eq_false (by omega)]
        rfl
      · rw [bif_t (c := a3 != b3) (by simpa using h3)]
        by_cases h4 : a3 < b3
        · rw [decide_eq_true h4]; rfl
        · rw [decide_eq_false h4, show decide (b3 < a3) = true from decide_eq_true (by omega)]; rfl
    · rw [bif_t (c := a2 != b2) (by simpa using h2)]
      by_cases h4 : a2 < b2
      · rw [decide_eq_true h4]; rfl
      · rw [decide_eq_false h4, show decide (b2 < a2) = true from decide_eq_true (by omega)]; rfl
/-- A reading put behind all that is not greater. -/
def insV (S : List Rd) (r : Rd) : List Rd := S.takeWhile (fun x => !bef r x) ++ [r] ++ S.dropWhile (fun x => !bef r x)
theorem rec_loop (S : List Rd) (hS : S.length ≤ 1000000) (r0 : ByteArray) (r1 r2 r3 : Int) : ∀ (n i : Nat), i + n = S.length → itr R15_0 (n + 1) ((S, ()), (r0, r1, r2, r3, ()), (i : Int), ()) = some ((S, ()), (r0, r1, r2, r3, ()), ((i + ((S.drop i).takeWhile (fun x => !bef (r0, r1, r2, r3) x)).length : Nat) : Int), ())
  | 0, i, h => by
    rw [List.drop_eq_nil_of_le (by omega)]
    refine itr_out ?_
    unfold R15_0 Q15_0
    simp only []
    rw [bif_f (c := decide ((i : Int) < (S.length : Int))) (decide_eq_false (by omega))]
    rfl
  | n + 1, i, h => by
    have hi : i < S.length := by omega
    have hro : R15_0 ((S, ()), (r0, r1, r2, r3, ()), (i : Int), ()) = bif !bef (r0, r1, r2, r3) S[i] then some (.inl ((S, ()), (r0, r1, r2, r3, ()), ((i + 1 : Nat) : Int), ())) else some (.inr ((S, ()), (r0, r1, r2, r3, ()), (i : Int), ())) := by
      have hb := rBefore (r0, r1, r2, r3) S[i]
      unfold R15_0 Q15_0
      simp only []
      rw [bif_t (c := decide ((i : Int) < (S.length : Int))) (decide_eq_true (by omega)), bif_t (c := decide (0 ≤ (i : Int)) && decide ((i : Int) < (S.length : Int))) (by rw [decide_eq_true (by omega), decide_eq_true (by omega)]; rfl), Int.toNat_natCast, List.getElem?_eq_getElem hi]
      simp only [Option.bind_some]
      rw [hb]
      simp only [Option.bind_some]
      rw [wsi (n := (i : Int) + 1) (by omega)]
      rfl
    rw [List.drop_eq_getElem_cons hi, List.takeWhile_cons]
    cases hc : bef (r0, r1, r2, r3) S[i] with
    | true =>
      rw [hc] at hro
      rw [if_neg (by simp [hc])]
      exact itr_out hro
    | false =>
      rw [hc] at hro
      rw [if_pos (by simp [hc]), itr_in hro, rec_loop S hS r0 r1 r2 r3 n (i + 1) (by omega)]
      simp only [List.length_cons]
      rw [show i + 1 + (List.takeWhile (fun x => !bef (r0, r1, r2, r3) x) (List.drop (i + 1) S)).length = i + ((List.takeWhile (fun x => !bef (r0, r1, r2, r3) x) (List.drop (i + 1) S)).length + 1) by omega]
theorem cut_app {A B S : List Rd} (h : A ++ B = S) : S.take A.length = A ∧ S.drop A.length = B := by
  subst h
  exact ⟨by simp, by simp⟩
theorem cut_while (p : Rd → Bool) (S : List Rd) : S.take (S.takeWhile p).length = S.takeWhile p ∧ S.drop (S.takeWhile p).length = S.dropWhile p := cut_app List.takeWhile_append_dropWhile
theorem rRecord {S : List Rd} (hS : S.length ≤ 1000000) (r : Rd) : N15 ((S, ()), r, ()) = some (recE r S.length, ((if recE r S.length = 0 then insV S r else S), ()), ()) := by
  have hf := rFault hS r
  obtain ⟨r0, r1, r2, r3⟩ := r
  unfold N15 M15
  simp only []
  rw [hf]
  simp only [Option.bind_some]
  by_cases h0 : recE (r0, r1, r2, r3) S.length = 0
  · have lp := itrs_eq (rec_loop S hS r0 r1 r2 r3 S.length 0 (by omega)) rfl (by omega)
    rw [show ((0 : Nat) : Int) = 0 from rfl, List.drop_zero, Nat.zero_add] at lp
    obtain ⟨c1, c2⟩ := cut_while (fun x => !bef (r0, r1, r2, r3) x) S
    have hle : (S.takeWhile fun x => !bef (r0, r1, r2, r3) x).length ≤ S.length := (List.takeWhile_sublist _).length_le
    have hld : (S.dropWhile fun x => !bef (r0, r1, r2, r3) x).length ≤ S.length := (List.dropWhile_sublist _).length_le
    rw [h0, bif_f (c := ((0 : Int) != 0)) (by decide), lp, if_pos rfl]
    simp only [Option.bind_some]
    unfold insV
    generalize hA : S.takeWhile (fun x => !bef (r0, r1, r2, r3) x) = A at *
    generalize hB : S.dropWhile (fun x => !bef (r0, r1, r2, r3) x) = B at *
    have t2 : List.take (S.length - A.length) B = B := List.take_of_length_le (by rw [← c2, List.length_drop]; omega)
    rw [bif_t (c := decide (0 ≤ (A.length : Int)) && decide ((A.length : Int) ≤ (S.length : Int)) && decide ((S.length : Int) ≤ (S.length : Int))) (by rw [decide_eq_true (by omega), decide_eq_true (by omega), decide_eq_true (by omega)]; rfl)]
    simp only [Option.bind_some, Int.toNat_natCast, Nat.sub_zero, c1, c2, t2, Nat.zero_add, List.nil_append]
    rw [bif_t (c := decide (B.length * 40 ≤ 210000000000000)) (decide_eq_true (by omega))]
    simp only [Option.bind_some]
    rw [bif_t (c := true && decide (0 ≤ (A.length : Int)) && decide ((A.length : Int) ≤ (S.length : Int))) (by rw [decide_eq_true (by omega), decide_eq_true (by omega)]; rfl)]
    simp only [Option.bind_some]
    rw [bif_t (c := decide ((A.length + 1) * 40 ≤ 210000000000000) && decide (A.length ≤ S.length)) (by rw [decide_eq_true (by omega), decide_eq_true (by omega)]; rfl)]
    simp only [Option.bind_some]
    rw [bif_t (by rw [decide_eq_true_eq]; simp only [List.length_append, List.length_singleton]; omega)]
    rfl
  · rw [bif_t (by simpa using h0), if_neg h0]
theorem rUsed {L : List Rd} (hL : L.length ≤ 1000000) (hh : ∀ r ∈ L, Held r) (k : ByteArray) (dim f t : Int) : N16 (L, k, dim, f, t, ()) = some (usedV (inU k dim f t) L, ()) := by
  have lp : itrs R16_0 (L, k, dim, f, t, 0, 0, ()) = some (usedV (inU k dim f t) L, ()) := by
    refine itrs_seq (fun j => (L, k, dim, f, t, usedV (inU k dim f t) (L.take j), (j : Int), ())) L.length rfl (fun j hj => ?_) ?_ (by omega)
    · have hg := at_get hj
      have hn := usedV_in (inU k dim f t) (L.take (j + 1)) fun r hr => hh r (List.mem_of_mem_take hr)
      have hlen : ((L.take (j + 1)).length : Int) = (j : Int) + 1 := by rw [List.length_take]; omega
      have ht := usedV_take (p := inU k dim f t) hj
      rw [ht] at hn ⊢
      rw [hlen] at hn
      unfold R16_0 Q16_0
      generalize usedV (inU k dim f t) (L.take j) = s at *
      simp only []
      rw [bif_t (c := decide ((j : Int) < (L.length : Int))) (decide_eq_true (by omega)), hg]
      simp only [Option.bind_some]
      rw [wsi (n := (j : Int) + 1) (by omega)]
      generalize L[j] = r at *
      unfold inU isK at *
      cases h1 : (ByteArray.toList r.1 == ByteArray.toList k) with
      | false => simp
      | true =>
        cases h2 : (r.2.1 == dim) with
        | false => simp
        | true =>
          cases h3 : decide (r.2.2.1 ≥ f) with
          | false => simp
          | true =>
            cases h4 : decide (r.2.2.1 < t) with
            | false => simp
            | true =>
              simp only [h1, h2, h3, h4, Bool.and_self, cond_true] at hn ⊢
              rw [wsi (n := s + r.2.2.2) (by omega)]
              rfl
    · rw [List.take_length]
      unfold R16_0 Q16_0
      simp only []
      rw [bif_f (c := decide ((L.length : Int) < (L.length : Int))) (decide_eq_false (by omega))]
  unfold N16 M16
  simp only []
  rw [lp]
  rfl
theorem rForget {L : List Rd} (hL : L.length ≤ 1000000) (k : ByteArray) (d : Int) : N17 ((L, ()), k, d, ()) = some ((L.length : Int) - ((L.filter fun r => !(gone k d r)).length : Int), (L.filter (fun r => !(gone k d r)), ()), ()) := by
  have lp : itrs R17_0 ((L, ()), k, d, [], 0, ()) = some ((L, ()), L.filter (fun r => !(gone k d r)), ()) := by
    refine itrs_seq (fun j => ((L, ()), k, d, (L.take j).filter (fun r => !(gone k d r)), (j : Int), ())) L.length rfl (fun j hj => ?_) ?_ (by omega)
    · have hl : ((L.take j).filter fun r => !(gone k d r)).length ≤ j := Nat.le_trans (List.length_filter_le _ _) (by rw [List.length_take]; omega)
      rw [filter_take hj]
      unfold R17_0 Q17_0
      generalize (L.take j).filter (fun r => !(gone k d r)) = s at *
      simp only []
      rw [bif_t (c := decide ((j : Int) < (L.length : Int))) (decide_eq_true (by omega)), bif_t (c := decide (0 ≤ (j : Int)) && decide ((j : Int) < (L.length : Int))) (by rw [decide_eq_true (by omega), decide_eq_true (by omega)]; rfl), Int.toNat_natCast, List.getElem?_eq_getElem hj]
      simp only [Option.bind_some]
      rw [wsi (n := (j : Int) + 1) (by omega), bif_t (c := decide ((s.length + 1) * 40 ≤ 210000000000000)) (decide_eq_true (by omega))]
      simp only [Option.bind_some]
      generalize L[j] = r at *
      unfold gone isK
      cases h1 : (ByteArray.toList r.1 == ByteArray.toList k) with
      | false => rfl
      | true =>
        by_cases h2 : r.2.2.1 < d
        · rw [show decide (r.2.2.1 ≥ d) = false from decide_eq_false (by omega), show decide (r.2.2.1 < d) = true from decide_eq_true h2]
          simp
        · rw [show decide (r.2.2.1 ≥ d) = true from decide_eq_true (by omega), show decide (r.2.2.1 < d) = false from decide_eq_false h2]
          rfl
    · rw [List.take_length]
      unfold R17_0 Q17_0
      simp only []
      rw [bif_f (c := decide ((L.length : Int) < (L.length : Int))) (decide_eq_false (by omega))]
  have hle := List.length_filter_le (fun r => !(gone k d r)) L
  unfold N17 M17
  simp only []
  rw [lp]
  simp only [Option.bind_some]
  rw [wsi (by omega)]
/-! ### the reference's list is the meter's, sorted -/
abbrev Srt (l : List Rd) : Prop := l.Pairwise fun x y => leR x y = true
theorem sortV_srt (l : List Rd) : Srt (sortV cmpV l) := by
  rw [sortV_le]
  exact List.pairwise_mergeSort leR_trans leR_total l
theorem sortV_prm (l : List Rd) : (sortV cmpV l).Perm l := by
  rw [sortV_le]
  exact List.mergeSort_perm l leR
theorem insV_perm (S : List Rd) (r : Rd) : (insV S r).Perm (S ++ [r]) := by
  have h : S.takeWhile (fun x => !bef r x) ++ S.dropWhile (fun x => !bef r x) = S := List.takeWhile_append_dropWhile
  have e : (S.takeWhile (fun x => !bef r x) ++ [r] ++ S.dropWhile (fun x => !bef r x)).Perm (S.takeWhile (fun x => !bef r x) ++ S.dropWhile (fun x => !bef r x) ++ [r]) := by
    rw [List.append_assoc, List.append_assoc]
    exact List.Perm.append_left _ List.perm_append_comm
  rw [h] at e
  exact e
theorem mem_while {p : Rd → Bool} : ∀ {S : List Rd} {x : Rd}, x ∈ S.takeWhile p → p x = true
  | a :: S, x, h => by
    rw [List.takeWhile_cons] at h
    by_cases hc : p a = true
    · rw [if_pos hc] at h
      rcases List.mem_cons.1 h with rfl | h
      · exact hc
      · exact mem_while h
    · rw [if_neg hc] at h
      cases h
theorem drop_while {p : Rd → Bool} : ∀ {S : List Rd}, S.dropWhile p = [] ∨ ∃ a T, S.dropWhile p = a :: T ∧ p a = false
  | [] => .inl rfl
  | a :: S => by
    rw [List.dropWhile_cons]
    by_cases hc : p a = true
    · rw [if_pos hc]; exact drop_while
    · rw [if_neg hc]; exact .inr ⟨a, S, rfl, by simpa using hc⟩
theorem insV_srt {S : List Rd} (h : Srt S) (r : Rd) : Srt (insV S r) := by
  have hs : S.takeWhile (fun x => !bef r x) ++ S.dropWhile (fun x => !bef r x) = S := List.takeWhile_append_dropWhile
  have hd := drop_while (p := fun x => !bef r x) (S := S)
  have hm : ∀ x, x ∈ S.takeWhile (fun x => !bef r x) → leR x r = true := fun x hx => mem_while (p := fun x => !bef r x) hx
  unfold insV
  unfold Srt at *
  rw [← hs] at h
  generalize S.takeWhile (fun x => !bef r x) = A at *
  generalize S.dropWhile (fun x => !bef r x) = B at *
  rw [List.pairwise_append] at h
  obtain ⟨h1, h2, h3⟩ := h
  have hb : ∀ y ∈ B, leR r y = true := by
    rcases hd with rfl | ⟨a, T, rfl, ha⟩
    · intro y hy; cases hy
    · have ha : leR r a = true := by
        simp only [Bool.not_eq_false'] at ha
        have := leR_total r a
        unfold leR at this ⊢
        rw [ha, Bool.not_true, Bool.or_false] at this
        exact this
      intro y hy
      rcases List.mem_cons.1 hy with rfl | hy
      · exact ha
      · exact leR_trans r a y ha ((List.pairwise_cons.1 h2).1 y hy)
  rw [List.append_assoc, List.pairwise_append]
  refine ⟨h1, ?_, fun x hx y hy => ?_⟩
  · rw [List.singleton_append, List.pairwise_cons]
    exact ⟨hb, h2⟩
  · rw [List.singleton_append] at hy
    rcases List.mem_cons.1 hy with rfl | hy
    · exact hm x hx
    · exact h3 x hx y hy
theorem insV_sort (L : List Rd) (r : Rd) : insV (sortV cmpV L) r = sortV cmpV (L ++ [r]) :=
  sorted_one ((insV_perm _ r).trans (((sortV_prm L).append_right [r]).trans (sortV_prm (L ++ [r])).symm)) (insV_srt (sortV_srt L) r) (sortV_srt _)
theorem filter_sort (p : Rd → Bool) (L : List Rd) : (sortV cmpV L).filter p = sortV cmpV (L.filter p) :=
  sorted_one (((sortV_prm L).filter p).trans (sortV_prm _).symm) (List.Pairwise.filter p (sortV_srt L)) (sortV_srt _)
end Go.Proofs.Ytedjdjngfdeheaa.E
/-
  MeterScripts, told plainly: the reference's list is the meter's, sorted. No condition.
-/
namespace Go.Proofs.Ytedjdjngfdeheaa.E
open Go
set_option linter.unusedVariables false
set_option linter.unusedSimpArgs false
set_option maxRecDepth 100000
abbrev Stp : Type := Int × (ByteArray × Int × Int × Int) × Int × Int
def stepM (L : List Rd) (s : Stp) : List Rd := bif s.1 == 0 then recV L s.2.1 else bif s.1 == 1 then L else L.filter (fun r => !(gone s.2.1.1 s.2.2.1 r))
def scrM (l : List Stp) : List Rd := l.foldl stepM []
theorem scrM_take {l : List Stp} {j : Nat} (h : j < l.length) : scrM (l.take (j + 1)) = stepM (scrM (l.take j)) l[j] := by
  unfold scrM
  rw [← List.take_append_getElem (l := l) (h := h), List.foldl_append]
  rfl
theorem stepM_in {L : List Rd} {s : Stp} {n : Nat} (h : L.length ≤ n ∧ ∀ x ∈ L, Held x) : (stepM L s).length ≤ n + 1 ∧ ∀ x ∈ stepM L s, Held x := by
  unfold stepM
  cases (s.1 == 0) with
  | true => exact recV_in h
  | false =>
    cases (s.1 == 1) with
    | true => exact ⟨by simp only [cond_true, cond_false]; omega, h.2⟩
    | false =>
      simp only [cond_false]
      have := List.length_filter_le (fun r => !(gone s.2.1.1 s.2.2.1 r)) L
      exact ⟨by omega, fun x hx => h.2 x (List.mem_filter.1 hx).1⟩
theorem scrM_in (l : List Stp) : ∀ j, j ≤ l.length → (scrM (l.take j)).length ≤ j ∧ ∀ x ∈ scrM (l.take j), Held x
  | 0, _ => ⟨Nat.le_refl 0, fun x hx => by cases hx⟩
  | j + 1, h => by
    rw [scrM_take (by omega)]
    exact stepM_in (scrM_in l j (by omega))
theorem rec_sort {L : List Rd} (r : Rd) : (if recE r (sortV cmpV L).length = 0 then insV (sortV cmpV L) r else sortV cmpV L) = sortV cmpV (recV L r) := by
  unfold recV
  rw [sortV_len]
  by_cases h : recE r L.length = 0
  · rw [if_pos h, if_pos h, insV_sort]
  · rw [if_neg h, if_neg h]
theorem sc_round {l : List Stp} {j : Nat} (hj : j < l.length) (h6 : j < 600) {L : List Rd} (hL : L.length ≤ j) (hh : ∀ x ∈ L, Held x) : R6_0 (l, (L, ()), (sortV cmpV L, ()), (j : Int), ()) = some (.inl (l, (stepM L l[j], ()), (sortV cmpV (stepM L l[j]), ()), ((j + 1 : Nat) : Int), ())) := by
  have hg := at_get hj
  have hin := stepM_in (s := l[j]) ⟨hL, hh⟩
  unfold R6_0 Q6_0
  simp only []
  rw [bif_t (c := decide ((j : Int) < (l.length : Int))) (decide_eq_true (by omega)), bif_t (c := decide ((j : Int) < 600)) (decide_eq_true (by omega)), hg]
  simp only [Option.bind_some]
  rw [wsi (n := (j : Int) + 1) (by omega)]
  generalize l[j] = s at *
  obtain ⟨k, ⟨r0, r1, r2, r3⟩, f, t⟩ := s
  have hSl : (sortV cmpV L).length = L.length := sortV_len L
  have hall := mAll (L := stepM L (k, (r0, r1, r2, r3), f, t)) (by omega)
  have hsame := mSame (L := sortV cmpV (stepM L (k, (r0, r1, r2, r3), f, t))) (by rw [sortV_len]; omega)
  have hlen : (sortV cmpV (stepM L (k, (r0, r1, r2, r3), f, t))).length = (stepM L (k, (r0, r1, r2, r3), f, t)).length := sortV_len _
  have hhS : ∀ x ∈ sortV cmpV L, Held x := fun x hx => hh x ((sortV_prm L).subset hx)
  unfold stepM at hall hsame hlen ⊢
  simp only at hall hsame hlen ⊢
  cases h0 : (k == 0) with
  | true =>
    rw [h0] at hall hsame hlen
    simp only [cond_true] at hall hsame hlen ⊢
    have e1 := mRecord (L := L) (by omega) (r0, r1, r2, r3)
    have e2 := rRecord (S := sortV cmpV L) (by omega) (r0, r1, r2, r3)
    rw [rec_sort, hSl] at e2
    rw [e1]
    simp only [Option.bind_some]
    rw [e2]
    simp only [Option.bind_some, bne_self_eq_false, cond_false, mCount]
    rw [hlen]
    simp only [bne_self_eq_false, cond_false]
    rw [hall]
    simp only [Option.bind_some]
    rw [hsame]
    simp only [Option.bind_some, Bool.not_true, cond_false]
    cases (Int.tmod (j : Int) 8 == 0) <;> rfl
  | false =>
    rw [h0] at hall hsame hlen
    simp only [cond_false] at hall hsame hlen ⊢
    cases h1 : (k == 1) with
    | true =>
      rw [h1] at hall hsame hlen
      simp only [cond_true] at hall hsame hlen ⊢
      rw [mUsed (by omega) hh, rUsed (by omega) hhS, usedV_perm (sortV_prm L)]
      simp only [Option.bind_some, bne_self_eq_false, cond_false, mCount]
      rw [hlen]
      simp only [bne_self_eq_false, cond_false]
      rw [hall]
      simp only [Option.bind_some]
      rw [hsame]
      simp only [Option.bind_some, Bool.not_true, cond_false]
      cases (Int.tmod (j : Int) 8 == 0) <;> rfl
    | false =>
      rw [h1] at hall hsame hlen
      simp only [cond_false] at hall hsame hlen ⊢
      have e2 := rForget (L := sortV cmpV L) (by omega) r0 f
      rw [filter_sort, sortV_len, sortV_len] at e2
      rw [mForget (by omega), e2]
      simp only [Option.bind_some, bne_self_eq_false, cond_false, mCount]
      rw [hlen]
      simp only [bne_self_eq_false, cond_false]
      rw [hall]
      simp only [Option.bind_some]
      rw [hsame]
      simp only [Option.bind_some, Bool.not_true, cond_false]
      cases (Int.tmod (j : Int) 8 == 0) <;> rfl
theorem pureMeterScripts : PMeterScripts := by
  intro l hl
  have lp : itrs R6_0 (l, ([], ()), ([], ()), 0, ()) = some (.inl ((scrM (l.take (min l.length 600)), ()), (sortV cmpV (scrM (l.take (min l.length 600))), ()), ())) := by
    refine itrs_seq (fun j => (l, (scrM (l.take j), ()), (sortV cmpV (scrM (l.take j)), ()), (j : Int), ())) (min l.length 600) ?_ (fun j hj => ?_) ?_ (by omega)
    · show (l, ([], ()), (sortV cmpV [], ()), (0 : Int), ()) = _
      rw [show sortV cmpV ([] : List Rd) = [] from by unfold sortV; simp]
    · have hj1 : j < l.length := by omega
      have hin := scrM_in l j (by omega)
      rw [sc_round hj1 (by omega) hin.1 hin.2, scrM_take hj1]
    · unfold R6_0 Q6_0
      simp only []
      by_cases h : l.length ≤ 600
      · rw [bif_f (c := decide (((min l.length 600 : Nat) : Int) < (l.length : Int))) (decide_eq_false (by omega))]
      · rw [bif_t (c := decide (((min l.length 600 : Nat) : Int) < (l.length : Int))) (decide_eq_true (by omega)), bif_f (c := decide (((min l.length 600 : Nat) : Int) < 600)) (decide_eq_false (by omega))]
  have hin := scrM_in l (min l.length 600) (by omega)
  generalize scrM (l.take (min l.length 600)) = L at *
  unfold N6 M6
  simp only []
  rw [mAwake]
  simp only [Option.bind_some, Bool.not_true, cond_false]
  rw [show N8 () = some (([], ()), ()) from rfl]
  simp only [Option.bind_some]
  rw [lp]
  simp only [Option.bind_some]
  rw [mAll (by omega)]
  simp only [Option.bind_some]
  rw [mSame (by rw [sortV_len]; omega)]
  rfl
end Go.Proofs.Ytedjdjngfdeheaa.E
namespace Go.Proofs.Ytedjdjngfdeheaa.E.Row
open Go Go.ChangeShapes Go.WideShapes Go.ChangeAt Go.RowKit Go.Proofs.Ytedjdjngfdeheaa
set_option linter.unusedVariables false
set_option maxRecDepth 100000
theorem own : ownKnob Try.prog.godebug = none := by kernel_rfl
theorem laidOut : laidOutB Try.prog = true := by kernel_rfl
theorem came29 : Came κ Try.prog 29 ((.pair .str (.pair (.int .i64) (.pair (.int .i64) (.int .i64)))) : K τ (ByteArray × (Int × (Int × Int)))) W29 := Came.struct Try.underlying29 (by kernel_rfl) (CameFs.cons (o1 := 1) (Q := fun x : ByteArray => (ByteArray.size x ≤ 140737488351232)) rfl (by kernel_rfl) rfl (Came.string Try.underlying9) (CameFs.cons (o1 := 2) (Q := fun x : Int => (-9223372036854775808 ≤ x ∧ x ≤ 9223372036854775807)) rfl (by kernel_rfl) rfl (Came.i64 Try.underlying3) (CameFs.cons (o1 := 3) (Q := fun x : Int => (-9223372036854775808 ≤ x ∧ x ≤ 9223372036854775807)) rfl (by kernel_rfl) rfl (Came.i64 Try.underlying2) (CameFs.one (Q := fun x : Int => (-9223372036854775808 ≤ x ∧ x ≤ 9223372036854775807)) rfl (by kernel_rfl) (Came.i64 Try.underlying2)))))
theorem came43 : Came κ Try.prog 43 ((.pair (.int .i64) (.pair (.pair .str (.pair (.int .i64) (.pair (.int .i64) (.int .i64)))) (.pair (.int .i64) (.int .i64)))) : K τ (Int × ((ByteArray × (Int × (Int × Int))) × (Int × Int)))) W43 := Came.struct Try.underlying43 (by kernel_rfl) (CameFs.cons (o1 := 1) (Q := fun x : Int => (-9223372036854775808 ≤ x ∧ x ≤ 9223372036854775807)) rfl (by kernel_rfl) rfl (Came.i64 Try.underlying3) (CameFs.cons (o1 := 5) (Q := fun x : (ByteArray × (Int × (Int × Int))) => W29 x) rfl (by kernel_rfl) rfl came29 (CameFs.cons (o1 := 6) (Q := fun x : Int => (-9223372036854775808 ≤ x ∧ x ≤ 9223372036854775807)) rfl (by kernel_rfl) rfl (Came.i64 Try.underlying2) (CameFs.one (Q := fun x : Int => (-9223372036854775808 ≤ x ∧ x ≤ 9223372036854775807)) rfl (by kernel_rfl) (Came.i64 Try.underlying2)))))
theorem came38 : Came κ Try.prog 38 (.sl (τ := τ) 43) (fun a : (List (Int × ((ByteArray × (Int × (Int × Int))) × (Int × Int)))) => (List.length a * Program.bytesOf Try.prog 43 ≤ 140737488351232 ∧ ∀ x ∈ a, W43 x)) := Came.slice (κ := κ) (e := 43) (Q := fun x : (Int × ((ByteArray × (Int × (Int × Int))) × (Int × Int))) => W43 x) Try.underlying38 (by kernel_rfl) (by kernel_rfl) rfl (show Came κ Try.prog 43 (κ 43) (fun x : (Int × ((ByteArray × (Int × (Int × Int))) × (Int × Int))) => W43 x) from came43)
theorem lifted (os : Os) (started : os.Started) (H : Type) (enc : TypeId × Value → H) :
    ReturnsInHanded {} Try.checked os 6 .any (Rows.meterScriptsSpec.pre6 enc Try.prog Try.f6 Rows.meterScriptsRow.domain false) (Rows.meterScriptsSpec.post enc Try.prog Try.f6 false true false false) := by
  refine returnsInHanded_of_change_sized (C := Try.checked) own started (by kernel_rfl) Try.func6
    (ChangeSpec.witness6 (enc := enc) (C := Try.checked) false ⟨#[], #[(.slice none 0 0)], []⟩ 8 (by kernel_rfl) (by kernel_rfl) (by kernel_rfl) (by kernel_rfl)) ?_
  intro W base args ds gs before hval0 hW hcnd hsz0 _
  have hsz : (DataW.weightsEach Try.prog (Try.f6.params.toList ++ Rows.meterScriptsSpec.plain.varTypes Try.prog) (ds ++ gs)).all (· ≤ reachBytes) = true := hsz0
  have hval : ∀ (j : Nat) t v, Try.f6.params[j]? = some t → args[j]? = some v → Value.okWide Try.prog W .any base t v := hval0
  have hW' := hW
  obtain ⟨p, q, hA0, hV, rfl, hfz, hnd⟩ := hW
  have hA : DataW.TrodAll enc Try.prog W 0 (fun _ => true) true Try.f6.params.toList args.toList ds p := hA0
  rw [Try.params6] at hA hval hsz
  obtain ⟨v0, vs0, d0, ds0, p0, q0, hargs, rfl, rfl, h0, r0⟩ := trodAll_cons hA
  obtain ⟨rfl, rfl, rfl⟩ := trodAll_nil r0
  obtain rfl : args = #[v0] := by cases args; simp_all
  obtain ⟨rfl, rfl⟩ := trodVars_none hV
  have hwt : ∀ (j : Nat) t d, [38][j]? = some t → [d0][j]? = some d → ∀ n ∈ DataW.weights Try.prog t d, n ≤ reachBytes := fun j t d h1 h2 n hn => by
    have := List.all_eq_true.1 hsz n (weights_each (j := j) (by simpa using (List.getElem?_append_left (l₂ := Rows.meterScriptsSpec.plain.varTypes Try.prog) (List.getElem?_eq_some_iff.1 h1).1).trans h1) (by simpa using h2) n hn)
    simpa using this
  have lt0 : ∀ x ∈ p0, x.block < W.heap.size := by obtain ⟨m, hm⟩ := h0; exact DataW.trod_lt m _ _ _ hm
  obtain ⟨a0, e0, y0⟩ := arg_slice Try.underlying38 came38 (hval 0 38 v0 rfl rfl) h0 (hwt 0 38 d0 rfl rfl)
  have hp : N6 (a0, ()) = some (true, ()) := pureMeterScripts a0 y0
  refine (law_calls (i := i6) (n := N6) (F := Try.f6) (code := bodyOf Try.f6) s6 (by kernel_rfl) Try.func6 (by kernel_rfl) (by kernel_rfl) hp (argsK_cons e0 argsK_nil)).mono fun e W' ⟨he, bel⟩ => ?_
  subst he
  exact ⟨_, rfl, _, _, _, [], _, [], hW', trodAll_mk1 (shut_bool Try.underlying4 _), (trodAll_cons_mk (Below.trod laidOut (by kernel_rfl) (of_decide_eq_true (by kernel_rfl)) h0 bel lt0) trodAll_mk0), rfl, bel.frame _, fun h => by cases h⟩
theorem over : Rows.meterScriptsRow.holds Try.pinned (OpenSpec.ofChange Rows.meterScriptsSpec) :=
  OpenClaim.holds_of_wide 6 Try.f6 rfl rfl rfl rfl rfl rfl rfl ⟨rfl, rfl, rfl, rfl, rfl⟩ rfl rfl rfl rfl rfl (by kernel_rfl) Try.func6 (by kernel_rfl)
    (of_decide_eq_true (by kernel_rfl)) (by unfold Func.isWrapper; first | (rw [if_pos (by decide +kernel)]; kernel_rfl) | (rw [if_neg (by decide +kernel)]; exact ⟨rfl, rfl⟩))
    (fun os started H enc _ => lifted os started H enc)
theorem proved : Rows.MeterScriptsSaid := over
end Go.Proofs.Ytedjdjngfdeheaa.E.Row
namespace Go.Proofs.Ytedjdjngfdeheaa
/-- The row, under a short name, for the claim. -/
theorem meterScripts_holds : Rows.MeterScriptsSaid := Ytedjdjngfdeheaa.E.Row.proved
#print axioms meterScripts_holds
end Go.Proofs.Ytedjdjngfdeheaa
