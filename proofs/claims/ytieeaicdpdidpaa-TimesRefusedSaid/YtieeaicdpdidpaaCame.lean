/-
  Data that are read as arguments, told in the words of the printed functions: whatever the form's reader reads at a type is of the kind that the print gives that type, and well formed. No condition.
-/
import Derived.SizedLaws
import Derived.ChangeArms
import Derived.ChangeOld
import Derived.Deep.Slices
import Derived.WideShapes
import Derived.ChangeSame
import Derived.Test.YtieeaicdpdidpaaWWords
namespace Go.Proofs.YtieeaicdpdidpaaW
open Go.RowKit Go.WideShapes Go.Deep Go.Proofs.YtieeaicdpdidpaaW.PrintWords

/-- What is read at type t is of kind d, with Q. -/
def Came {α : Type} (P : Program) (t : TypeId) (d : Kd α) (Q : α → Prop) : Prop :=
  ∀ (H : Type) (enc : TypeId × Value → H) (w : World) (base : Nat) (spare : Nat → Bool) (held : Bool) (fuel : Nat) (cs : List Value) (x : DataW H × List MemPlace),
    DataW.trod enc P w base spare held fuel t cs = some x → (∀ n ∈ x.1.weights P t, n ≤ reachBytes) → ∃ a, d.K w a cs ∧ Q a

theorem Came.int {P : Program} {t : TypeId} {k : IntKind} (hu : P.underlying t = some (.int k)) : Came P t (Kd.int k) (fun a => (Lit.int k a).wf = true) := by
  intro H enc w base spare held fuel cs x h _
  obtain ⟨n, rfl, _, hw⟩ := DataW.trod_int hu h
  exact ⟨n, rfl, hw⟩
theorem Came.mono {α : Type} {P : Program} {t : TypeId} {d : Kd α} {Q Q' : α → Prop} (h : Came P t d Q) (hq : ∀ a, Q a → Q' a) : Came P t d Q' := by
  intro H enc w base spare held fuel cs x hx hw
  obtain ⟨a, h1, h2⟩ := h H enc w base spare held fuel cs x hx hw
  exact ⟨a, h1, hq a h2⟩
theorem Came.i64 {P : Program} {t : TypeId} (hu : P.underlying t = some (.int .i64)) : Came P t (Kd.int .i64) (fun a => -9223372036854775808 ≤ a ∧ a ≤ 9223372036854775807) :=
  (Came.int hu).mono fun a h => by simpa [Lit.wf, IntKind.min, IntKind.max, IntKind.signed, IntKind.bits] using h
theorem Came.u64 {P : Program} {t : TypeId} (hu : P.underlying t = some (.int .u64)) : Came P t (Kd.int .u64) (fun a => 0 ≤ a ∧ a ≤ 18446744073709551615) :=
  (Came.int hu).mono fun a h => by simpa [Lit.wf, IntKind.min, IntKind.max, IntKind.signed, IntKind.bits] using h
theorem Came.u8 {P : Program} {t : TypeId} (hu : P.underlying t = some (.int .u8)) : Came P t (Kd.int .u8) (fun a => 0 ≤ a ∧ a ≤ 255) :=
  (Came.int hu).mono fun a h => by simpa [Lit.wf, IntKind.min, IntKind.max, IntKind.signed, IntKind.bits] using h
theorem Came.bool {P : Program} {t : TypeId} (hu : P.underlying t = some .bool) : Came P t Kd.bool (fun _ => True) := by
  intro H enc w base spare held fuel cs x h _
  obtain ⟨b, rfl, _⟩ := DataW.trod_bool hu h
  exact ⟨b, rfl, trivial⟩
theorem Came.string {P : Program} {t : TypeId} (hu : P.underlying t = some .string) : Came P t Kd.string (fun s => s.size ≤ 140737488351232) := by
  intro H enc w base spare held fuel cs x h hw
  obtain ⟨s, rfl, rfl, _⟩ := DataW.trod_string hu h
  refine ⟨s, rfl, ?_⟩
  have := hw s.data.toList.length (by simp [DataW.weights])
  simpa [reachBytes] using this

theorem mem_weightsAll {H : Type} {P : Program} {e : TypeId} : ∀ {l : List (DataW H)} {d : DataW H}, d ∈ l → ∀ n ∈ d.weights P e, n ∈ DataW.weightsAll P e l
  | [], d, h => by simp at h
  | a :: l, d, h => by
    intro n hn
    simp only [DataW.weightsAll, List.mem_append]
    rcases List.mem_cons.1 h with rfl | h
    · exact .inl hn
    · exact .inr (mem_weightsAll h n hn)

theorem cell_of_cells {w : World} {base : Nat} {a : Addr} {n : Nat} {cs : List Value} (h : w.cells? base a n = some cs) : cs.length = n ∧ ∀ i u, cs[i]? = some u → w.cell? (a.add i) = some u := by
  unfold World.cells? at h
  split at h
  · have hl := mapM_some_length h
    refine ⟨by simpa using hl, fun i u hu => ?_⟩
    have hi : i < n := by
      have := (List.getElem?_eq_some_iff.1 hu).1
      have hl' : cs.length = n := by simpa using hl
      omega
    have := mapM_some_get h i i (by simp [hi])
    rw [this, hu]
  · simp at h

theorem list_of {α : Type} {R : Nat → α → Prop} : ∀ n, (∀ i, i < n → ∃ x, R i x) → ∃ l : List α, l.length = n ∧ ∀ i x, l[i]? = some x → R i x
  | 0, _ => ⟨[], rfl, by simp⟩
  | n + 1, h => by
    obtain ⟨l, hl, hr⟩ := list_of n fun i hi => h i (by omega)
    obtain ⟨x, hx⟩ := h n (by omega)
    refine ⟨l ++ [x], by simp [hl], fun i y hy => ?_⟩
    by_cases hi : i < l.length
    · rw [List.getElem?_append_left hi] at hy
      exact hr i y hy
    · have hlt := (List.getElem?_eq_some_iff.1 hy).1
      have : i = n := by simp at hlt; omega
      subst this
      rw [List.getElem?_append_right (by omega)] at hy
      simp [hl] at hy
      rw [← hy]
      exact hx

theorem Came.slice {α : Type} {P : Program} {t e : TypeId} {d : Kd α} {Q : α → Prop} (hu : P.underlying t = some (.slice e)) (hc : P.cellsOf e = d.sz) {B : Nat} (hB : P.bytesOf e = B) (h : Came P e d Q) :
    Came P t (Kd.slice e d) (fun l => l.length * B ≤ 140737488351232 ∧ ∀ x ∈ l, Q x) := by
  intro H enc w base spare held fuel cs x hx hw
  rcases open_slice hu hx with ⟨rfl, rfl⟩ | ⟨a, len, cap, m, n, D, Pl, rfl, hb, hl, hm, hm', rfl, hel⟩
  · exact ⟨[], ⟨none, 0, rfl, Nat.le_refl _, rfl, by simp, fun h => absurd h (by simp)⟩, by simp, by simp⟩
  · have hlm : len ≤ m := by rw [hm']; split <;> omega
    obtain ⟨l, hl1, hl2⟩ := list_of (R := fun i (x : α) => (∃ cs', w.cells? base (a.add (i * P.cellsOf e)) (P.cellsOf e) = some cs' ∧ d.K w x cs') ∧ Q x) len (by
      intro i hi
      obtain ⟨cs', h1, h2⟩ := hel i (by omega)
      obtain ⟨x, hk, hq⟩ := h H enc w base spare held n cs' (D i, Pl i) h2 fun k hk => hw k (by
        simp only [DataW.weights, hu, List.mem_cons, List.mem_append]
        exact .inr (.inl (mem_weightsAll (List.mem_map.2 ⟨i, by simp [hi], rfl⟩) k hk)))
      exact ⟨x, ⟨cs', h1, hk⟩, hq⟩)
    have hw0 := hw ((len + (m - len)) * P.bytesOf e) (by simp [DataW.weights, hu])
    refine ⟨l, ⟨some a, cap, by rw [hl1], by rw [hl1]; exact hl, rfl, by rw [hl1]; unfold maxLen at hm; omega, fun _ => ⟨a, rfl, fun j p hj => ?_⟩⟩, ?_, ?_⟩
    · obtain ⟨⟨cs', h1, h2⟩, _⟩ := hl2 j p hj
      obtain ⟨h3, h4⟩ := cell_of_cells h1
      rw [hc] at h3 h4
      refine ⟨cs', h3, h2, fun i u hu' => ?_⟩
      have := h4 i u hu'
      rw [← this]
      congr 1
      unfold Addr.add
      by_cases e1 : j * d.sz = 0 <;> by_cases e2 : i = 0 <;> simp [e1, e2, Nat.add_assoc]
    · rw [hl1, ← hB]
      have : len * P.bytesOf e ≤ (len + (m - len)) * P.bytesOf e := Nat.mul_le_mul_right _ (by omega)
      unfold reachBytes at hw0
      omega
    · intro x hx
      obtain ⟨i, hi, rfl⟩ := List.getElem_of_mem hx
      exact (hl2 i _ (by simp)).2

/-- An argument that is one struct: its cells. -/
theorem arg_agg {α : Type} {P : Program} {t : TypeId} {fs : Array Field} {d : Kd α} {Q : α → Prop} (hu : P.underlying t = some (.struct fs)) (h : Came P t d Q) {r : Reach} {W : World} {b0 : Nat} {v : Value} (hv : Value.okWide P W r b0 t v) {H : Type} {enc : TypeId × Value → H} {base : Nat} {spare : Nat → Bool} {held : Bool}
    {x : DataW H} {p : List MemPlace} (hx : DataW.Trod enc P W base spare held t v x p) (hw : ∀ n ∈ x.weights P t, n ≤ reachBytes) : ∃ (cs : List Value) (a : α), v = .agg cs.toArray ∧ d.K W a cs ∧ Q a := by
  obtain ⟨cs, rfl, _⟩ := okWide_struct hu hv
  obtain ⟨fuel, hf⟩ := hx
  obtain ⟨a, h1, h2⟩ := h H enc W base spare held fuel _ (x, p) hf hw
  exact ⟨cs.toList, a, by simp, h1, h2⟩
/-- An argument that is a slice. -/
theorem arg_slice {α : Type} {P : Program} {t e : TypeId} {d : Kd α} {Q : List α → Prop} (hu : P.underlying t = some (.slice e)) (h : Came P t (Kd.slice e d) Q) {r : Reach} {W : World} {b0 : Nat} {v : Value} (hv : Value.okWide P W r b0 t v) {H : Type} {enc : TypeId × Value → H} {base : Nat} {spare : Nat → Bool} {held : Bool}
    {x : DataW H} {p : List MemPlace} (hx : DataW.Trod enc P W base spare held t v x p) (hw : ∀ n ∈ x.weights P t, n ≤ reachBytes) : ∃ (A : Option Addr) (c : Nat) (l : List α), v = .slice A l.length c ∧ Kd.C d W A l.length l ∧ l.length ≤ c ∧ Q l := by
  obtain ⟨A, len, cap, rfl⟩ := okWide_slice hu hv
  obtain ⟨fuel, hf⟩ := hx
  obtain ⟨a, ⟨A', c, hcs, hl, hr⟩, h2⟩ := h H enc W base spare held fuel _ (x, p) hf hw
  simp [Value.cells] at hcs
  obtain ⟨rfl, rfl, rfl⟩ := hcs
  exact ⟨_, _, a, rfl, hr, hl, h2⟩
theorem weights_each {H : Type} {P : Program} : ∀ {ts : List TypeId} {ds : List (DataW H)} {j : Nat} {t : TypeId} {d : DataW H}, ts[j]? = some t → ds[j]? = some d → ∀ n ∈ d.weights P t, n ∈ DataW.weightsEach P ts ds :=
  fun h1 h2 => DataW.weights_mem_each h1 h2

/-- What the fields of a struct say together: one after the other, from cell o on. -/
def CameFs {α : Type} (P : Program) (fs : List Field) (o : Nat) (d : Kd α) (Q : α → Prop) : Prop :=
  ∀ (H : Type) (enc : TypeId × Value → H) (w : World) (base : Nat) (spare : Nat → Bool) (held : Bool) (fuel : Nat) (cs : List Value) (xs : List (DataW H × List MemPlace)),
    xs.length = fs.length → cs.length = o + d.sz → (∀ (i : Nat) (f : Field), fs[i]? = some f → DataW.trod enc P w base spare held fuel f.type ((cs.drop f.offset).take (P.cellsOf f.type)) = xs[i]?) →
    (∀ n ∈ DataW.weightsEach P (fs.map (·.type)) (xs.map (·.1)), n ≤ reachBytes) → ∃ a, d.K w a (cs.drop o) ∧ Q a

theorem CameFs.one {α : Type} {P : Program} {f : Field} {o : Nat} {d : Kd α} {Q : α → Prop} (ho : f.offset = o) (hc : P.cellsOf f.type = d.sz) (h : Came P f.type d Q) : CameFs P [f] o d Q := by
  intro H enc w base spare held fuel cs xs hl hcs hx hw
  have h0 := hx 0 f rfl
  obtain ⟨x, rfl⟩ : ∃ x, xs = [x] := by
    cases xs with
    | nil => simp at hl
    | cons x r => cases r with
      | nil => exact ⟨x, rfl⟩
      | cons y r => simp at hl
  rw [ho, hc, List.take_of_length_le (by simp; omega)] at h0
  exact h H enc w base spare held fuel _ x (by simpa using h0) fun n hn => hw n (by simp [DataW.weightsEach, hn])

theorem CameFs.cons {α β : Type} {P : Program} {f : Field} {fs : List Field} {o o1 : Nat} {d : Kd α} {d1 : Kd β} {Q : α → Prop} {Q1 : β → Prop} (ho : f.offset = o) (hc : P.cellsOf f.type = d.sz) (ho1 : o1 = o + d.sz) (h : Came P f.type d Q)
    (h1 : CameFs P fs o1 d1 Q1) : CameFs P (f :: fs) o (Kd.pair d d1) (fun a => Q a.1 ∧ Q1 a.2) := by
  intro H enc w base spare held fuel cs xs hl hcs hx hw
  subst ho1
  have h0 := hx 0 f rfl
  obtain ⟨x, r, rfl⟩ : ∃ x r, xs = x :: r := by
    cases xs with
    | nil => simp at hl
    | cons x r => exact ⟨x, r, rfl⟩
  rw [ho, hc] at h0
  have hcs' : cs.length = o + (d.sz + d1.sz) := hcs
  obtain ⟨a, ha, hqa⟩ := h H enc w base spare held fuel _ x (by simpa using h0) fun n hn => hw n (by simp [DataW.weightsEach, hn])
  obtain ⟨b, hb, hqb⟩ := h1 H enc w base spare held fuel cs r (by simpa using hl) (by omega) (fun i f' hf => by simpa using hx (i + 1) f' (by simpa using hf)) fun n hn => hw n (by simp only [List.map_cons, DataW.weightsEach, List.mem_append]; exact .inr hn)
  refine ⟨(a, b), ⟨_, _, ?_, ha, hb⟩, hqa, hqb⟩
  rw [← List.drop_drop, List.take_append_drop]

theorem Came.struct {α β : Type} {P : Program} {t : TypeId} {fs : Array Field} {d : Kd α} {Q : α → Prop} (f : β → α) (g : α → β) (hfg : ∀ a, f (g a) = a) (hu : P.underlying t = some (.struct fs)) (hc : P.cellsOf t = d.sz) (h : CameFs P fs.toList 0 d Q) :
    Came P t (Kd.iso d f) (fun b => Q (f b)) := by
  intro H enc w base spare held fuel cs x hx hw
  obtain ⟨xs, n, rfl, rfl, hl, hsz, hel⟩ := DataW.trod_struct hu hx
  obtain ⟨a, ha, hq⟩ := h H enc w base spare held n cs xs (by simpa using hsz) (by omega) (fun i f hf => hel i f (by simpa using hf)) fun k hk => hw k (by
    simp only [DataW.weights, hu]
    exact hk)
  exact ⟨g a, by show d.K w (f (g a)) cs; rw [hfg]; simpa using ha, by show Q (f (g a)); rw [hfg]; exact hq⟩
end Go.Proofs.YtieeaicdpdidpaaW
