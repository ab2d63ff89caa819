/- A verified symbolic evaluator of programs over plain data: its definitions and the proof that what it computes, the machine does. No condition. -/
import Derived.Test.YtaalnjfmcjdimaaGreatGE1
import Derived.SizedLaws
import Derived.ChangeArms
import Derived.ChangeOld
import Derived.Deep.Slices
import Derived.WideShapes
import Derived.ChangeSame
import Derived.WalkKit
import Derived.ProofKit
import Derived.OpenShut
import Derived.ShutString
import Derived.Below
import Derived.Carry
import Derived.Laws.Bits64
import Derived.Laws.BitsLemmas
import Derived.Laws.MathBits
namespace Go.Proofs.YtaalnjfmcjdimaaGreat.E
open Go Go.RowKit Go.WideShapes Go.Deep Go.ChangeShapes Go.ChangeAt
set_option linter.unusedVariables false
set_option linter.unusedSimpArgs false
set_option linter.unusedSectionVars false
variable {τ : Nat → Type} {κ : (e : Nat) → K τ (τ e)} {P : Program}
def inW (w : World) (p : Nat) : Prop := p < w.heap.size
def Came (κ : (e : Nat) → K τ (τ e)) (P : Program) (t : TypeId) {α : Type} (k : K τ α) (Q : α → Prop) : Prop :=
  ∀ (H : Type) (enc : TypeId × Value → H) (w : World) (base : Nat) (spare : Nat → Bool) (held : Bool) (fuel : Nat) (cs : List Value) (x : DataW H × List MemPlace),
    DataW.trod enc P w base spare held fuel t cs = some x → (∀ n ∈ x.1.weights P t, n ≤ reachBytes) → ∃ a, KD κ (inW w) w k a cs ∧ Q a
theorem Came.int {t : TypeId} {k : IntKind} (hu : P.underlying t = some (.int k)) : Came κ P t (K.int k) (fun a => (Lit.int k a).wf = true) := by
  intro H enc w base spare held fuel cs x h _
  obtain ⟨n, rfl, _, hw⟩ := DataW.trod_int hu h
  exact ⟨n, .int k n, hw⟩
theorem Came.bool {t : TypeId} (hu : P.underlying t = some .bool) : Came κ P t K.bool (fun _ => True) := by
  intro H enc w base spare held fuel cs x h _
  obtain ⟨b, rfl, _⟩ := DataW.trod_bool hu h
  exact ⟨b, .bool b, trivial⟩
theorem Came.string {t : TypeId} (hu : P.underlying t = some .string) : Came κ P t K.str (fun s => s.size ≤ 140737488351232) := by
  intro H enc w base spare held fuel cs x h hw
  obtain ⟨s, rfl, rfl, _⟩ := DataW.trod_string hu h
  refine ⟨s, .str s, ?_⟩
  have := hw s.data.toList.length (by simp [DataW.weights])
  simpa [reachBytes] using this
theorem mem_weightsAll {H : Type} {e : TypeId} : ∀ {l : List (DataW H)} {d : DataW H}, d ∈ l → ∀ n ∈ d.weights P e, n ∈ DataW.weightsAll P e l
  | [], d, h => by simp at h
  | a :: l, d, h => by
    intro n hn
    simp only [DataW.weightsAll, List.mem_append]
    rcases List.mem_cons.1 h with rfl | h
    · exact .inl hn
    · exact .inr (mem_weightsAll h n hn)
theorem cell_of_cells {w : World} {base : Nat} {a : Addr} {n : Nat} {cs : List Value} (h : w.cells? base a n = some cs) : cs.length = n ∧ ∀ i u, cs[i]? = some u → w.cell? (a.add i) = some u := by
  unfold World.cells? at h
  split at h
  · have hl := mapM_some_length h
    refine ⟨by simpa using hl, fun i u hu => ?_⟩
    have hi : i < n := by
      have := (List.getElem?_eq_some_iff.1 hu).1
      have hl' : cs.length = n := by simpa using hl
      omega
    have := mapM_some_get h i i (by simp [hi])
    rw [this, hu]
  · simp at h
theorem cell_lt {w : World} {a : Addr} {u : Value} (h : w.cell? a = some u) : a.block < w.heap.size := by
  rcases Nat.lt_or_ge a.block w.heap.size with k | k
  · exact k
  · have : w.heap[a.block]? = none := by simpa using k
    unfold World.cell? at h
    rw [this] at h
    cases h
theorem list_of {α : Type} {R : Nat → α → Prop} : ∀ n, (∀ i, i < n → ∃ x, R i x) → ∃ l : List α, l.length = n ∧ ∀ i x, l[i]? = some x → R i x
  | 0, _ => ⟨[], rfl, by simp⟩
  | n + 1, h => by
    obtain ⟨l, hl, hr⟩ := list_of n fun i hi => h i (by omega)
    obtain ⟨x, hx⟩ := h n (by omega)
    refine ⟨l ++ [x], by simp [hl], fun i y hy => ?_⟩
    by_cases hi : i < l.length
    · rw [List.getElem?_append_left hi] at hy
      exact hr i y hy
    · have hlt := (List.getElem?_eq_some_iff.1 hy).1
      have : i = n := by simp at hlt; omega
      subst this
      rw [List.getElem?_append_right (by omega)] at hy
      simp [hl] at hy
      rw [← hy]
      exact hx
theorem Came.slice {t e : TypeId} {Q : τ e → Prop} (hu : P.underlying t = some (.slice e)) (hc : P.cellsOf e = (κ e).sz) (h0 : Nat.ble 1 (κ e).sz = true) {B : Nat} (hB : P.bytesOf e = B) (h : Came κ P e (κ e) Q) :
    Came κ P t (K.sl (τ := τ) e) (fun l => l.length * B ≤ 140737488351232 ∧ ∀ x ∈ l, Q x) := by
  intro H enc w base spare held fuel cs x hx hw
  have h0 : 1 ≤ (κ e).sz := Nat.le_of_ble_eq_true h0
  rcases open_slice hu hx with ⟨rfl, rfl⟩ | ⟨a, len, cap, m, n, D, Pl, rfl, hb, hl, hm, hm', rfl, hel⟩
  · exact ⟨[], .sl (l := []) (fun _ => []) (Nat.le_refl _) (fun j hj => absurd hj (by simp)) (fun j a hj => by simp at hj), by simp, by simp⟩
  · have hlm : len ≤ m := by rw [hm']; split <;> omega
    obtain ⟨l, hl1, hl2⟩ := list_of (R := fun i (x : τ e) => (∃ cs', w.cells? base (a.add (i * P.cellsOf e)) (P.cellsOf e) = some cs' ∧ KD κ (inW w) w (κ e) x cs') ∧ Q x) len (by
      intro i hi
      obtain ⟨cs', h1, h2⟩ := hel i (by omega)
      obtain ⟨x, hk, hq⟩ := h H enc w base spare held n cs' (D i, Pl i) h2 fun k hk => hw k (by
        simp only [DataW.weights, hu, List.mem_cons, List.mem_append]
        exact .inr (.inl (mem_weightsAll (List.mem_map.2 ⟨i, by simp [hi], rfl⟩) k hk)))
      exact ⟨x, ⟨cs', h1, hk⟩, hq⟩)
    have hw0 := hw ((len + (m - len)) * P.bytesOf e) (by simp [DataW.weights, hu])
    obtain ⟨css, hcss⟩ : ∃ css : Nat → List Value, ∀ j x, l[j]? = some x → w.cells? base (a.add (j * P.cellsOf e)) (P.cellsOf e) = some (css j) ∧ KD κ (inW w) w (κ e) x (css j) := by
      refine ⟨fun j => (w.cells? base (a.add (j * P.cellsOf e)) (P.cellsOf e)).getD [], fun j x hj => ?_⟩
      obtain ⟨⟨cs', h1, h2⟩, _⟩ := hl2 j x hj
      have e : ((fun j => (w.cells? base (a.add (j * P.cellsOf e)) (P.cellsOf e)).getD []) j) = cs' := by simp only [h1, Option.getD_some]
      rw [e]
      exact ⟨h1, h2⟩
    refine ⟨l, ?_, ?_, ?_⟩
    · have := KD.sl (κ := κ) (kp := inW w) (w := w) (e := e) (l := l) (A := some a) (c := cap) css (by omega) (fun j hj => ?_) (fun j x hj => (hcss j x hj).2)
      · rw [hl1] at this; exact this
      · obtain ⟨h1, _⟩ := hcss j _ (List.getElem?_eq_getElem hj)
        obtain ⟨h3, h4⟩ := cell_of_cells h1
        rw [hc] at h3 h4
        have h5 : ∀ i u, (css j)[i]? = some u → w.cell? (a.add (j * (κ e).sz + i)) = some u := fun i u hu' => by
          have := h4 i u hu'
          rw [← this]
          congr 1
          unfold Addr.add
          by_cases e1 : j * (κ e).sz = 0 <;> by_cases e2 : i = 0 <;> simp [e1, e2, Nat.add_assoc]
        refine ⟨a, rfl, ?_, h5⟩
        have := cell_lt (h5 0 _ (List.getElem?_eq_getElem (by omega)))
        rw [add_block] at this
        exact this
    · rw [hl1, ← hB]
      have : len * P.bytesOf e ≤ (len + (m - len)) * P.bytesOf e := Nat.mul_le_mul_right _ (by omega)
      unfold reachBytes at hw0
      omega
    · intro x hx
      obtain ⟨i, hi, rfl⟩ := List.getElem_of_mem hx
      exact (hl2 i _ (by simp)).2
def CameFs (κ : (e : Nat) → K τ (τ e)) (P : Program) (fs : List Field) (o : Nat) {α : Type} (d : K τ α) (Q : α → Prop) : Prop :=
  ∀ (H : Type) (enc : TypeId × Value → H) (w : World) (base : Nat) (spare : Nat → Bool) (held : Bool) (fuel : Nat) (cs : List Value) (xs : List (DataW H × List MemPlace)),
    xs.length = fs.length → cs.length = o + d.sz → (∀ (i : Nat) (f : Field), fs[i]? = some f → DataW.trod enc P w base spare held fuel f.type ((cs.drop f.offset).take (P.cellsOf f.type)) = xs[i]?) →
    (∀ n ∈ DataW.weightsEach P (fs.map (·.type)) (xs.map (·.1)), n ≤ reachBytes) → ∃ a, KD κ (inW w) w d a (cs.drop o) ∧ Q a
theorem CameFs.one {α : Type} {f : Field} {o : Nat} {d : K τ α} {Q : α → Prop} (ho : f.offset = o) (hc : P.cellsOf f.type = d.sz) (h : Came κ P f.type d Q) : CameFs κ P [f] o d Q := by
  intro H enc w base spare held fuel cs xs hl hcs hx hw
  have h0 := hx 0 f rfl
  obtain ⟨x, rfl⟩ : ∃ x, xs = [x] := by
    cases xs with
    | nil => simp at hl
    | cons x r => cases r with
      | nil => exact ⟨x, rfl⟩
      | cons y r => simp at hl
  rw [ho, hc, List.take_of_length_le (by simp; omega)] at h0
  exact h H enc w base spare held fuel _ x (by simpa using h0) fun n hn => hw n (by simp [DataW.weightsEach, hn])
theorem CameFs.cons {α β : Type} {f : Field} {fs : List Field} {o o1 : Nat} {d : K τ α} {d1 : K τ β} {Q : α → Prop} {Q1 : β → Prop} (ho : f.offset = o) (hc : P.cellsOf f.type = d.sz) (ho1 : o1 = o + d.sz) (h : Came κ P f.type d Q)
    (h1 : CameFs κ P fs o1 d1 Q1) : CameFs κ P (f :: fs) o (K.pair d d1) (fun a => Q a.1 ∧ Q1 a.2) := by
  intro H enc w base spare held fuel cs xs hl hcs hx hw
  subst ho1
  have h0 := hx 0 f rfl
  obtain ⟨x, r, rfl⟩ : ∃ x r, xs = x :: r := by
    cases xs with
    | nil => simp at hl
    | cons x r => exact ⟨x, r, rfl⟩
  rw [ho, hc] at h0
  have hcs' : cs.length = o + (d.sz + d1.sz) := hcs
  obtain ⟨a, ha, hqa⟩ := h H enc w base spare held fuel _ x (by simpa using h0) fun n hn => hw n (by simp [DataW.weightsEach, hn])
  obtain ⟨b, hb, hqb⟩ := h1 H enc w base spare held fuel cs r (by simpa using hl) (by omega) (fun i f' hf => by simpa using hx (i + 1) f' (by simpa using hf)) fun n hn => hw n (by simp only [List.map_cons, DataW.weightsEach, List.mem_append]; exact .inr hn)
  refine ⟨(a, b), ?_, hqa, hqb⟩
  have : cs.drop o = (cs.drop o).take d.sz ++ cs.drop (o + d.sz) := by rw [← List.drop_drop, List.take_append_drop]
  rw [this]
  exact .pair ha hb
theorem Came.struct {α : Type} {t : TypeId} {fs : Array Field} {d : K τ α} {Q : α → Prop} (hu : P.underlying t = some (.struct fs)) (hc : P.cellsOf t = d.sz) (h : CameFs κ P fs.toList 0 d Q) : Came κ P t d Q := by
  intro H enc w base spare held fuel cs x hx hw
  obtain ⟨xs, n, rfl, rfl, hl, hsz, hel⟩ := DataW.trod_struct hu hx
  obtain ⟨a, ha, hq⟩ := h H enc w base spare held n cs xs (by simpa using hsz) (by omega) (fun i f hf => hel i f (by simpa using hf)) fun k hk => hw k (by
    simp only [DataW.weights, hu]
    exact hk)
  exact ⟨a, by simpa using ha, hq⟩
theorem Came.mono {α : Type} {t : TypeId} {d : K τ α} {Q Q' : α → Prop} (h : Came κ P t d Q) (hq : ∀ a, Q a → Q' a) : Came κ P t d Q' := by
  intro H enc w base spare held fuel cs x hx hw
  obtain ⟨a, h1, h2⟩ := h H enc w base spare held fuel cs x hx hw
  exact ⟨a, h1, hq a h2⟩
theorem Came.i64 {t : TypeId} (hu : P.underlying t = some (.int .i64)) : Came κ P t (K.int .i64) (fun a => -9223372036854775808 ≤ a ∧ a ≤ 9223372036854775807) :=
  (Came.int hu).mono fun a h => by simpa [Lit.wf, IntKind.min, IntKind.max, IntKind.signed, IntKind.bits] using h
theorem Came.u64 {t : TypeId} (hu : P.underlying t = some (.int .u64)) : Came κ P t (K.int .u64) (fun a => 0 ≤ a ∧ a ≤ 18446744073709551615) :=
  (Came.int hu).mono fun a h => by simpa [Lit.wf, IntKind.min, IntKind.max, IntKind.signed, IntKind.bits] using h
theorem Came.u8 {t : TypeId} (hu : P.underlying t = some (.int .u8)) : Came κ P t (K.int .u8) (fun a => 0 ≤ a ∧ a ≤ 255) :=
  (Came.int hu).mono fun a h => by simpa [Lit.wf, IntKind.min, IntKind.max, IntKind.signed, IntKind.bits] using h
theorem arg_agg {α : Type} {t : TypeId} {fs : Array Field} {d : K τ α} {Q : α → Prop} (hu : P.underlying t = some (.struct fs)) (hg : d.isAgg = true) (h : Came κ P t d Q) {r : Reach} {W : World} {b0 : Nat} {v : Value} (hv : Value.okWide P W r b0 t v) {H : Type} {enc : TypeId × Value → H} {base : Nat} {spare : Nat → Bool} {held : Bool}
    {x : DataW H} {p : List MemPlace} (hx : DataW.Trod enc P W base spare held t v x p) (hw : ∀ n ∈ x.weights P t, n ≤ reachBytes) : ∃ a : α, VD κ (inW W) W d a v ∧ Q a := by
  obtain ⟨cs, rfl, _⟩ := okWide_struct hu hv
  obtain ⟨fuel, hf⟩ := hx
  obtain ⟨a, h1, h2⟩ := h H enc W base spare held fuel _ (x, p) hf hw
  exact ⟨a, ⟨cs.toList, h1, by rw [if_pos hg]⟩, h2⟩
theorem arg_one {α : Type} {t : TypeId} {d : K τ α} {Q : α → Prop} (hg : d.isAgg = false) (h : Came κ P t d Q) {W : World} {v : Value} (hc : v.cells.toList = [v]) {H : Type} {enc : TypeId × Value → H} {base : Nat} {spare : Nat → Bool} {held : Bool}
    {x : DataW H} {p : List MemPlace} (hx : DataW.Trod enc P W base spare held t v x p) (hw : ∀ n ∈ x.weights P t, n ≤ reachBytes) : ∃ a : α, VD κ (inW W) W d a v ∧ Q a := by
  obtain ⟨fuel, hf⟩ := hx
  obtain ⟨a, h1, h2⟩ := h H enc W base spare held fuel _ (x, p) hf hw
  rw [hc] at h1
  exact ⟨a, ⟨[v], h1, by rw [if_neg (by rw [hg]; simp)]⟩, h2⟩
theorem arg_slice {t e : TypeId} {Q : List (τ e) → Prop} (hu : P.underlying t = some (.slice e)) (h : Came κ P t (K.sl (τ := τ) e) Q) {r : Reach} {W : World} {b0 : Nat} {v : Value} (hv : Value.okWide P W r b0 t v) {H : Type} {enc : TypeId × Value → H} {base : Nat} {spare : Nat → Bool} {held : Bool}
    {x : DataW H} {p : List MemPlace} (hx : DataW.Trod enc P W base spare held t v x p) (hw : ∀ n ∈ x.weights P t, n ≤ reachBytes) : ∃ a, VD κ (inW W) W (K.sl (τ := τ) e) a v ∧ Q a := by
  obtain ⟨A, len, cap, rfl⟩ := okWide_slice hu hv
  exact arg_one rfl h rfl hx hw
theorem weights_each {H : Type} : ∀ {ts : List TypeId} {ds : List (DataW H)} {j : Nat} {t : TypeId} {d : DataW H}, ts[j]? = some t → ds[j]? = some d → ∀ n ∈ d.weights P t, n ∈ DataW.weightsEach P ts ds :=
  fun h1 h2 => DataW.weights_mem_each h1 h2
def ArgsK (κ : (e : Nat) → K τ (τ e)) (W : World) : {α : Type} → Fr τ α → α → List Value → Prop
  | _, .nil, _, vs => vs = []
  | _, .val t k r, x, vs => ∃ v vs', vs = v :: vs' ∧ VD κ (inW W) W k x.1 v ∧ ArgsK κ W r x.2 vs'
  | _, _, _, _ => False
theorem argsK_nil {W : World} {x : Unit} : ArgsK κ W (.nil : Fr τ Unit) x [] := rfl
theorem argsK_cons {W : World} {α β : Type} {t : Nat} {k : K τ α} {r : Fr τ β} {a : α} {b : β} {v : Value} {vs : List Value} (h : VD κ (inW W) W k a v) (h2 : ArgsK κ W r b vs) : ArgsK κ W (.val t k r) (a, b) (v :: vs) := ⟨v, vs, rfl, h, h2⟩
theorem argsK_svs {g : Gh} {W : World} (hg : g.kp = inW W) : ∀ {α : Type} (σ : Fr τ α) (x : α) (vs : List Value), ArgsK κ W σ x vs → All2 (denC κ g W) (σ.svs x) vs
  | _, .nil, x, vs, h => by
    have h : vs = [] := h
    subst h
    exact .nil
  | _, .val t k r, x, vs, h => by
    obtain ⟨v, vs', rfl, h1, h2⟩ := h
    refine .cons (cv_den (g := g) ?_) (argsK_svs hg r x.2 vs' h2)
    rw [hg]
    exact h1
  | _, .arr _ _ _ _, _, _, h => h.elim
  | _, .own _ _ _, _, _, h => h.elim
  | _, .ptr _ _ _ _ _, _, _, h => h.elim
  | _, .aptr _ _ _ _, _, _, h => h.elim
theorem seq_tin : ∀ {α : Type} (σ : Fr τ α) (t n : Nat), σ.seq t = true → t + σ.places.length ≤ n → σ.tin n = true
  | _, .nil, t, n, _, _ => rfl
  | _, .val u k r, t, n, h, hn => by
    simp only [Fr.seq, Bool.and_eq_true] at h
    obtain rfl := beq_eq h.1
    simp only [Fr.places, List.length_cons] at hn
    simp only [Fr.tin, Bool.and_eq_true]
    exact ⟨by simp [Nat.blt]; omega, seq_tin r (u + 1) n h.2 (by omega)⟩
  | _, .arr u m k r, t, n, h, hn => by
    simp only [Fr.seq, Bool.and_eq_true] at h
    obtain rfl := beq_eq h.1
    simp only [Fr.places, List.length_cons] at hn
    simp only [Fr.tin, Bool.and_eq_true]
    exact ⟨by simp [Nat.blt]; omega, seq_tin r (u + 1) n h.2 (by omega)⟩
  | _, .own _ _ _, _, _, h, _ => by simp [Fr.seq] at h
  | _, .ptr _ _ _ _ _, _, _, h, _ => by simp [Fr.seq] at h
  | _, .aptr _ _ _ _, _, _, h, _ => by simp [Fr.seq] at h
theorem law_calls {α : Type} {i : Fr τ α} {F : Func} {f : Nat} {n : α → Option (Bool × Unit)} {code : Code} (hS : Sound κ P (⟨i, .val 1000 .bool .nil, n, 0⟩ : Ctr τ) f) (hi : i.seq 0 = true) (hf : P.funcs[f]? = some F) (hn : (F.name == "runtime.NumGoroutine") = false) (hb : F.body = some code)
    {x : α} {b : Bool} (hx : n x = some (b, ())) {W : World} {vals : List Value} (ha : ArgsK κ W i x vals) : Calls P f vals.toArray W fun e W' => e = .returned (.bool b) ∧ Below W.heap.size W W' := by
  obtain ⟨t1, t2, t3, t4, _, _⟩ := seq_tab i 0 x hi
  have hkp : (⟨fun _ => none, fun _ _ => none, fun p => if p < W.heap.size then .keep else .free⟩ : Gh).kp = inW W := by
    funext p
    simp only [Gh.kp, inW]
    by_cases h : p < W.heap.size <;> simp [h]
  have ha2 := argsK_svs hkp i x vals ha
  have hlen : vals.length = i.places.length := by rw [← ha2.length, t1]
  have hD := hS x (b, ()) hx ⟨fun _ => none, fun _ _ => none, fun p => if p < W.heap.size then .keep else .free⟩ W vals (fun p => by
      by_cases h : p < W.heap.size
      · simp [h]
      · simp [h]; omega) (fun q _ => ⟨rfl, fun _ => rfl⟩) ⟨fun d B e => (by rw [Fr.build, t3] at e; cases e), fun q R e => (by rw [Fr.build, t4] at e; cases e)⟩ (seq_tin i 0 _ hi (by omega)) hlen (fun t v hv => by
      obtain ⟨cv, k1, k2⟩ := ha2.get' t v hv
      have := t2 t
      rw [if_pos (Nat.zero_le _), Nat.sub_zero, k1] at this
      have e : (i.build x).t t = .c cv := this
      rw [e]
      exact k2)
  unfold Doc at hD
  rw [run_enter hf hn hb] at hD
  simp only at hD
  refine hD.mono ?_
  rintro e W' ⟨v, rfl, g', vs, hfin, hM, rfl, hnr, hr, _⟩
  have hnr : vs.length = 1 := hnr
  match vs, hnr with
  | [u], _ =>
    have h1 : u = .bool b := hr 0 u rfl
    subst h1
    refine ⟨rfl, ⟨hfin.os, hfin.tape, hfin.output, hfin.size, fun k hk => (hfin.old k (.inl ?_)).2⟩⟩
    simp [hk]
end Go.Proofs.YtaalnjfmcjdimaaGreat.E
namespace Go.Proofs.YtaalnjfmcjdimaaGreat.E
open Go
set_option linter.unusedVariables false
/-! ### words -/
theorem wu (n : Int) : IntKind.wrap .u64 n = n % 18446744073709551616 := IntKind.wrap_u64 n
theorem wui {n : Int} (h : 0 ≤ n ∧ n ≤ 18446744073709551615) : IntKind.wrap .u64 n = n := by rw [wu]; omega
theorem ws (n : Int) : IntKind.wrap .i64 n = (n + 9223372036854775808) % 18446744073709551616 - 9223372036854775808 := IntKind.wrap_i64 n
theorem wsi {n : Int} (h : -9223372036854775808 ≤ n ∧ n ≤ 9223372036854775807) : IntKind.wrap .i64 n = n := by rw [ws]; omega
theorem w8 (n : Int) : IntKind.wrap .u8 n = n % 256 := IntKind.wrap_u8 n
theorem bif_p {α : Type} (p : Prop) [Decidable p] (a b : α) : (bif decide p then a else b) = if p then a else b := by by_cases h : p <;> simp [h]
theorem bif_not {α : Type} (c : Bool) (a b : α) : (bif !c then a else b) = bif c then b else a := by cases c <;> rfl
theorem bif_iff {α : Type} (p q : Prop) [Decidable p] [Decidable q] (a b : α) : (bif decide p == decide q then a else b) = if (p ↔ q) then a else b := by by_cases h : p <;> by_cases k : q <;> simp [h, k]
theorem bif_eq {α : Type} (x y : Int) (a b : α) : (bif x == y then a else b) = if x = y then a else b := by rw [Bool.cond_eq_ite]; simp only [beq_iff_eq]
theorem bif_ne {α : Type} (x y : Int) (a b : α) : (bif x != y then a else b) = if x = y then b else a := by rw [show (x != y) = !(x == y) from rfl, bif_not, bif_eq]
theorem bif_and {α : Type} (c d : Bool) (a b : α) : (bif c && d then a else b) = bif c then (bif d then a else b) else b := by cases c <;> rfl
theorem bif_t {α : Type} {c : Bool} {a b : α} (h : c = true) : (bif c then a else b) = a := by rw [h]; rfl
theorem bif_f {α : Type} {c : Bool} {a b : α} (h : c = false) : (bif c then a else b) = b := by rw [h]; rfl
theorem fdiv_pos {a b : Int} (h : 0 ≤ b) : a.fdiv b = a / b := Int.fdiv_eq_ediv_of_nonneg a h
theorem tdiv_pos {a b : Int} (h : 0 ≤ a) : a.tdiv b = a / b := Int.tdiv_eq_ediv_of_nonneg h
theorem tmod_pos {a b : Int} (h : 0 ≤ a) : a.tmod b = a % b := Int.tmod_eq_emod_of_nonneg h
theorem isW_of {x : Int} (h : 0 ≤ x ∧ x ≤ 18446744073709551615) : isW x = true := by simp [isW, h]
section
variable {τ : Nat → Type}
theorem add64_f {x y c : Int} (hx : 0 ≤ x ∧ x ≤ 18446744073709551615) (hy : 0 ≤ y ∧ y ≤ 18446744073709551615) (hc : 0 ≤ c ∧ c ≤ 1) :
    (cAdd64 (τ := τ)).f (x, y, c, ()) = some ((x + y + c) % 18446744073709551616, (x + y + c) / 18446744073709551616, ()) := by
  show (bif isW x && isW y && decide (0 ≤ c) && decide (c ≤ 1) then _ else none) = _
  rw [isW_of hx, isW_of hy, decide_eq_true hc.1, decide_eq_true hc.2]
  rfl
theorem sub64_f {x y c : Int} (hx : 0 ≤ x ∧ x ≤ 18446744073709551615) (hy : 0 ≤ y ∧ y ≤ 18446744073709551615) (hc : 0 ≤ c ∧ c ≤ 1) :
    (cSub64 (τ := τ)).f (x, y, c, ()) = some ((x - y - c) % 18446744073709551616, -((x - y - c) / 18446744073709551616), ()) := by
  show (bif isW x && isW y && decide (0 ≤ c) && decide (c ≤ 1) then some (_, bif decide (x < y + c) then 1 else 0, ()) else none) = _
  rw [isW_of hx, isW_of hy, decide_eq_true hc.1, decide_eq_true hc.2, bif_p]
  show some _ = some _
  congr 3
  split <;> omega
end
/-! ### loops -/
theorem itr_seq {α β : Type} {ro : α → Option (α ⊕ β)} (σ : Nat → α) {y : β} : ∀ (n k : Nat), (∀ j, k ≤ j → j < k + n → ro (σ j) = some (.inl (σ (j + 1)))) → ro (σ (k + n)) = some (.inr y) → itr ro (n + 1) (σ k) = some y
  | 0, k, _, h => by rw [itr_succ]; rw [Nat.add_zero] at h; rw [h]
  | n + 1, k, hs, h => by
    rw [itr_succ, hs k (Nat.le_refl _) (by omega)]
    exact itr_seq σ n (k + 1) (fun j h1 h2 => hs j (by omega) (by omega)) (by rw [show k + 1 + n = k + (n + 1) from by omega]; exact h)
theorem itrs_seq {α β : Type} {ro : α → Option (α ⊕ β)} (σ : Nat → α) (n : Nat) {x : α} {y : β} (h0 : σ 0 = x) (hs : ∀ j, j < n → ro (σ j) = some (.inl (σ (j + 1)))) (hy : ro (σ n) = some (.inr y)) (hn : n < 18446744073709551616) : itrs ro x = some y := by
  subst h0
  refine itrs_of (itr_seq σ n 0 (fun j _ h => hs j (by omega)) (by rw [Nat.zero_add]; exact hy)) (by omega)
theorem itr_in {α β : Type} {ro : α → Option (α ⊕ β)} {n : Nat} {x x' : α} (h : ro x = some (.inl x')) : itr ro (n + 1) x = itr ro n x' := by rw [itr_succ, h]
theorem itr_out {α β : Type} {ro : α → Option (α ⊕ β)} {n : Nat} {x : α} {y : β} (h : ro x = some (.inr y)) : itr ro (n + 1) x = some y := by rw [itr_succ, h]
theorem itr_bif {α β : Type} {ro : α → Option (α ⊕ β)} {n : Nat} {x x' : α} {y : β} {c : Bool} (h : ro x = bif c then some (.inr y) else some (.inl x')) : itr ro (n + 1) x = bif c then some y else itr ro n x' := by rw [itr_succ, h]; cases c <;> rfl
theorem itrs_eq {α β : Type} {ro : α → Option (α ⊕ β)} {n : Nat} {x : α} {o : Option β} (h : itr ro n x = o) (ho : o.isSome = true) (hn : n ≤ 18446744073709551616) : itrs ro x = o := by
  cases o with
  | none => cases ho
  | some y => exact itrs_of h hn
theorem itr_any {α β : Type} {ro : α → Option (α ⊕ β)} (mk : Nat → α) (bad : Nat → Bool) (e y : β) : ∀ (n k : Nat), (∀ j, k ≤ j → j < k + n → ro (mk j) = bif bad j then some (.inr e) else some (.inl (mk (j + 1)))) → ro (mk (k + n)) = some (.inr y) → itr ro (n + 1) (mk k) = some (bif (List.range' k n).any bad then e else y)
  | 0, k, _, h => by rw [itr_succ]; rw [Nat.add_zero] at h; rw [h]; rfl
  | n + 1, k, hs, h => by
    rw [itr_bif (hs k (Nat.le_refl _) (by omega)), List.range'_succ, List.any_cons]
    cases hb : bad k with
    | true => rfl
    | false =>
      rw [itr_any mk bad e y n (k + 1) (fun j h1 h2 => hs j (by omega) (by omega)) (by rw [show k + 1 + n = k + (n + 1) from by omega]; exact h)]
      rfl
theorem itrs_any {α β : Type} {ro : α → Option (α ⊕ β)} (mk : Nat → α) (bad : Nat → Bool) (e y : β) (n : Nat) {x : α} (hx : mk 0 = x) (hs : ∀ j, j < n → ro (mk j) = bif bad j then some (.inr e) else some (.inl (mk (j + 1)))) (h : ro (mk n) = some (.inr y)) (hn : n < 18446744073709551616) : itrs ro x = some (bif (List.range' 0 n).any bad then e else y) := by
  subst hx
  exact itrs_of (itr_any mk bad e y n 0 (fun j _ h => hs j (by omega)) (by rw [Nat.zero_add]; exact h)) (by omega)
theorem at_get {γ : Type} {l : List γ} {j : Nat} (h : j < l.length) : (bif decide ((0 : Int) ≤ (j : Int)) then l[Int.toNat (j : Int)]? else none) = some l[j] := by
  rw [bif_t (decide_eq_true (by omega)), Int.toNat_natCast, List.getElem?_eq_getElem h]
theorem take_flat {γ δ : Type} (f : γ → List δ) (l : List γ) {j : Nat} (h : j < l.length) : (l.take (j + 1)).flatMap f = (l.take j).flatMap f ++ f l[j] := by
  rw [List.take_succ_eq_append_getElem h, List.flatMap_append]
  simp
/-! ### numbers of two words -/
def wv (h l : Int) : Int := h * 18446744073709551616 + l
def WB (h l : Int) : Prop := (-9223372036854775808 ≤ h ∧ h ≤ 9223372036854775807) ∧ (0 ≤ l ∧ l ≤ 18446744073709551615)
def inR (v : Int) : Prop := -170141183460469231731687303715884105728 ≤ v ∧ v ≤ 170141183460469231731687303715884105727
instance (v : Int) : Decidable (inR v) := inferInstanceAs (Decidable (_ ∧ _))
def wans (v : Int) : (Int × Int) × Int × Unit :=
  if -170141183460469231731687303715884105728 ≤ v ∧ v ≤ 170141183460469231731687303715884105727 then ((v / 18446744073709551616, v % 18446744073709551616), 0, ()) else ((0, 0), 10, ())
theorem wans_in {v : Int} (h : -170141183460469231731687303715884105728 ≤ v ∧ v ≤ 170141183460469231731687303715884105727) : wans v = ((v / 18446744073709551616, v % 18446744073709551616), 0, ()) := if_pos h
theorem wans_out {v : Int} (h : ¬ (-170141183460469231731687303715884105728 ≤ v ∧ v ≤ 170141183460469231731687303715884105727)) : wans v = ((0, 0), 10, ()) := if_neg h
theorem wans_WB (v : Int) : WB (wans v).1.1 (wans v).1.2 := by
  unfold wans WB
  split
  · refine ⟨⟨?_, ?_⟩, ?_, ?_⟩ <;> simp only <;> omega
  · simp
theorem wv_in {h l : Int} (b : WB h l) : -170141183460469231731687303715884105728 ≤ wv h l ∧ wv h l ≤ 170141183460469231731687303715884105727 := by
  unfold WB at b; unfold wv; omega
theorem wv_hi {h l : Int} (b : WB h l) : wv h l / 18446744073709551616 = h := by
  unfold WB at b; unfold wv; omega
theorem wv_lo {h l : Int} (b : WB h l) : wv h l % 18446744073709551616 = l := by
  unfold WB at b; unfold wv; omega
theorem wans_wv {h l : Int} (b : WB h l) : wans (wv h l) = ((h, l), 0, ()) := by
  rw [wans_in (wv_in b), wv_hi b, wv_lo b]
theorem wv_of (v : Int) : wv (v / 18446744073709551616) (v % 18446744073709551616) = v := by unfold wv; omega
theorem WB_zero : WB 0 0 := by unfold WB; omega
theorem WB_of {a : Int} (h : -9223372036854775808 ≤ a ∧ a ≤ 9223372036854775807) : WB (a / 18446744073709551616) (a % 18446744073709551616) := by unfold WB; omega
theorem WB_in {v : Int} (h : -170141183460469231731687303715884105728 ≤ v ∧ v ≤ 170141183460469231731687303715884105727) : WB (v / 18446744073709551616) (v % 18446744073709551616) := by unfold WB; omega
def wabs (v : Int) : Int := if v < 0 then -v else v
theorem wabs_in {h l : Int} (b : WB h l) : 0 ≤ wabs (wv h l) ∧ wabs (wv h l) ≤ 170141183460469231731687303715884105728 := by
  have := wv_in b
  unfold wabs
  split <;> omega
theorem wabs_nonneg (v : Int) : 0 ≤ wabs v := by unfold wabs; split <;> omega
def cmpv (a b : Int) : Int := if a < b then -1 else if a = b then 0 else 1
theorem cmpv_cases (a b : Int) : (a < b ∧ cmpv a b = -1) ∨ (a = b ∧ cmpv a b = 0) ∨ (b < a ∧ cmpv a b = 1) := by
  unfold cmpv
  (repeat' split) <;> omega
end Go.Proofs.YtaalnjfmcjdimaaGreat.E
