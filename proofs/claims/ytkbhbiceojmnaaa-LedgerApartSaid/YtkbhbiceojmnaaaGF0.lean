/- What each function comes to, told as a Lean function, and that the machine does so. No condition. -/
import Derived.Test.YtkbhbiceojmnaaaGE0
import Derived.Test.YtkbhbiceojmnaaaGE2
import Derived.Test.YtkbhbiceojmnaaaProg
import Derived.Test.YtkbhbiceojmnaaaChecked
import Derived.WalkKit
import Derived.Deep.LoopGhost
import Derived.Lib.Walk
import Derived.Lib.SliceRun
import Derived.MapKept
import Derived.Sort.LotA
import Derived.Laws.Strings
import Derived.Laws.IdiomRangeMap
import Derived.Shelf.Sort.Plain
import Derived.Shelf.Slices.In.SortNone
/-
  A ledger in a machine's memory, told by predicates: the map of accounts, whole and opened at one name. No condition.
-/
namespace Go.Proofs.Ytkbhbiceojmnaaa.E
open Go
set_option linter.unusedVariables false
abbrev OpnR : Type := Int × Int × Int
abbrev Acc : Type := List OpnR × Int × List Int
abbrev MapL : Type := List (ByteArray × Acc)
def rawO (o : OpnR) : List Value := [.int .i64 o.1, .int .i64 o.2.1, .int .i64 o.2.2]
def rawI (n : Int) : List Value := [.int .i64 n]
theorem owns_same {w w' : World} {e size n : Nat} {v : Value} {xs : List Value} (h : Owns w e size v n xs) (hs : ∀ q, ownB v = some q → w'.heap[q]? = w.heap[q]?) : Owns w' e size v n xs := by
  refine ⟨h.1, ?_⟩
  rcases h.2 with h2 | ⟨g, o, cap, cur, fz, e1, h0, h1, rest⟩
  · exact .inl h2
  · exact .inr ⟨g, o, cap, cur, fz, e1, h0, by rw [hs g (by rw [e1]; exact ownB_pos h0)]; exact h1, rest⟩
/-- An account at a block, and the blocks that it holds. -/
def AccD (w : World) (p : Nat) (a : Acc) (fp : List Nat) : Prop :=
  ∃ s1 s2, w.heap[p]? = some (.cells #[s1, .int .i64 a.2.1, s2] 56 (0, 0)) ∧ s1.oneCell' = true ∧ s2.oneCell' = true ∧ Owns w 45 3 s1 a.1.length (a.1.flatMap rawO) ∧ Owns w 3 1 s2 a.2.2.length (a.2.2.flatMap rawI) ∧ fp = p :: ((ownB s1).toList ++ (ownB s2).toList)
theorem accD_same {w w' : World} {p : Nat} {a : Acc} {fp : List Nat} (h : AccD w p a fp) (hs : ∀ q ∈ fp, w'.heap[q]? = w.heap[q]?) : AccD w' p a fp := by
  obtain ⟨s1, s2, h1, o1, o2, h2, h3, rfl⟩ := h
  exact ⟨s1, s2, by rw [hs p (by simp)]; exact h1, o1, o2, owns_same h2 fun q hq => hs q (by simp [hq]), owns_same h3 fun q hq => hs q (by simp [hq]), rfl⟩
/-- A map's entries: each a name and a pointer to an account of its own. -/
inductive Ents (w : World) : List MapEntry → MapL → List Nat → Prop
  | nil : Ents w [] [] []
  | cons {e : MapEntry} {es : List MapEntry} {k : ByteArray} {a : Acc} {M : MapL} {p : Nat} {fp fps : List Nat} : e.key = .string k → e.val = .pointer (some ⟨p, 0, none⟩) → AccD w p a fp → Ents w es M fps → Ents w (e :: es) ((k, a) :: M) (fp ++ fps)
theorem ents_same {w w' : World} : ∀ {es : List MapEntry} {M : MapL} {fps : List Nat}, Ents w es M fps → (∀ q ∈ fps, w'.heap[q]? = w.heap[q]?) → Ents w' es M fps := by
  intro es M fps h
  induction h with
  | nil => intro _; exact .nil
  | cons h1 h2 h3 _ ih => intro hs; exact .cons h1 h2 (accD_same h3 fun q hq => hs q (List.mem_append_left _ hq)) (ih fun q hq => hs q (List.mem_append_right _ hq))
theorem ents_app {w : World} : ∀ {es es2 : List MapEntry} {M M2 : MapL} {fps fps2 : List Nat}, Ents w es M fps → Ents w es2 M2 fps2 → Ents w (es ++ es2) (M ++ M2) (fps ++ fps2) := by
  intro es es2 M M2 fps fps2 h h2
  induction h with
  | nil => exact h2
  | cons h1 h3 h4 _ ih =>
    rw [List.append_assoc]
    exact .cons h1 h3 h4 ih
/-- The entries' stamps. -/
def Born (es : List MapEntry) (clock : Nat) : Prop := (es.map (·.born)).Nodup ∧ ∀ e ∈ es, e.born < clock
/-- A whole ledger. -/
def LedD (x : MapL × Int) (g : Gh) (w : World) (d : Nat) : Prop :=
  ∃ p m es clock fps, g.bn d = some p ∧ w.heap[p]? = some (.cells #[.map (some m), .int .i64 x.2] 50 (0, 0)) ∧ w.heap[m]? = some (.map (List.toArray es) clock) ∧ Ents w es x.1 fps ∧ (x.1.map Prod.fst).Nodup ∧ (p :: m :: fps).Nodup ∧ (∀ q ∈ p :: m :: fps, g.tag q = .blk d) ∧ Born es clock
theorem ledD_mono : ObMono LedD := by
  intro x g w g' w' d h h1 _ h3 _
  obtain ⟨p, m, es, clock, fps, k1, k2, k3, k4, k5, k6, k7, k8⟩ := h
  have same : ∀ q ∈ p :: m :: fps, w'.heap[q]? = w.heap[q]? := fun q hq => (h3 q (k7 q hq)).2
  exact ⟨p, m, es, clock, fps, h1 _ _ k1, by rw [same p (by simp)]; exact k2, by rw [same m (by simp)]; exact k3, ents_same k4 fun q hq => same q (by simp [hq]), k5, k6, fun q hq => (h3 q (k7 q hq)).1, k8⟩
theorem ledD_ren : ObRen LedD := by
  intro x g w g' d q h h1 h3 _
  obtain ⟨p, m, es, clock, fps, k1, k2, k3, k4, k5, k6, k7, k8⟩ := h
  exact ⟨p, m, es, clock, fps, h1 _ k1, k2, k3, k4, k5, k6, fun r hr => h3 r (k7 r hr), k8⟩
/-- A map that is opened at a name: what stands ahead of it and behind it; the number of the account's block, if there is one. -/
abbrev OpL : Type := MapL × MapL × ByteArray × Option Nat
def LdO (x : OpL) (g : Gh) (w : World) (d : Nat) : Prop :=
  ∃ m es1 es2 clock fps1 fps2, g.bn d = some m ∧ Ents w es1 x.1 fps1 ∧ Ents w es2 x.2.1 fps2 ∧ (m :: (fps1 ++ fps2)).Nodup ∧ (∀ q ∈ m :: (fps1 ++ fps2), g.tag q = .blk d) ∧ ((x.1 ++ x.2.1).map Prod.fst).Nodup ∧ x.2.2.1 ∉ (x.1 ++ x.2.1).map Prod.fst ∧
    match x.2.2.2 with
    | none => w.heap[m]? = some (.map (es1 ++ es2).toArray clock) ∧ Born (es1 ++ es2) clock
    | some l => ∃ e pk, w.heap[m]? = some (.map (es1 ++ e :: es2).toArray clock) ∧ Born (es1 ++ e :: es2) clock ∧ e.key = .string x.2.2.1 ∧ e.val = .pointer (some ⟨pk, 0, none⟩) ∧ g.bn l = some pk
theorem ldO_mono : ObMono LdO := by
  intro x g w g' w' d h h1 _ h3 _
  obtain ⟨m, es1, es2, clock, fps1, fps2, k1, k2, k3, k4, k5, k6, k7, k8⟩ := h
  have same : ∀ q ∈ m :: (fps1 ++ fps2), w'.heap[q]? = w.heap[q]? := fun q hq => (h3 q (k5 q hq)).2
  refine ⟨m, es1, es2, clock, fps1, fps2, h1 _ _ k1, ents_same k2 fun q hq => same q (by simp [hq]), ents_same k3 fun q hq => same q (by simp [hq]), k4, fun q hq => (h3 q (k5 q hq)).1, k6, k7, ?_⟩
  split
  · rename_i e
    rw [e] at k8
    exact ⟨by rw [same m (by simp)]; exact k8.1, k8.2⟩
  · rename_i l e
    rw [e] at k8
    obtain ⟨en, pk, j1, j2, j3, j4, j5⟩ := k8
    exact ⟨en, pk, by rw [same m (by simp)]; exact j1, j2, j3, j4, h1 _ _ j5⟩
/-- A slice in kept memory: its elements' cells. -/
def RowK (g : Gh) (w : World) (sz : Nat) (v : Value) (cs : List (List Value)) : Prop :=
  ∃ A c, v = .slice A cs.length c ∧ cs.length ≤ c ∧ ∀ j l, cs[j]? = some l → ∃ ad : Addr, A = some ad ∧ g.tag ad.block = .keep ∧ ∀ i u, l[i]? = some u → w.cell? (ad.add (j * sz + i)) = some u
theorem rowK_same {g g' : Gh} {w w' : World} {sz : Nat} {v : Value} {cs : List (List Value)} (h : RowK g w sz v cs) (hk : ∀ p, g.tag p = .keep → g'.tag p = .keep ∧ w'.heap[p]? = w.heap[p]?) : RowK g' w' sz v cs := by
  obtain ⟨A, c, h1, h2, h3⟩ := h
  refine ⟨A, c, h1, h2, fun j l hj => ?_⟩
  obtain ⟨ad, k1, k2, k3⟩ := h3 j l hj
  refine ⟨ad, k1, (hk _ k2).1, fun i u hu => ?_⟩
  rw [World.cell?_of_block (w := w) (by rw [add_block]; exact (hk _ k2).2)]
  exact k3 i u hu
/-- What a reader sees of a ledger: the account of a name, in kept memory. -/
def LdK (x : ByteArray × Acc) (g : Gh) (w : World) (d : Nat) : Prop :=
  ∃ p m posts es clock i pk s1 s2, g.bn d = some p ∧ g.tag p = .keep ∧ w.heap[p]? = some (.cells #[.map (some m), posts] 50 (0, 0)) ∧ g.tag m = .keep ∧ w.heap[m]? = some (.map (List.toArray es) clock) ∧
    Instr.findNow .string (.string x.1) es 0 = some (some (i, .pointer (some ⟨pk, 0, none⟩))) ∧ g.tag pk = .keep ∧ w.heap[pk]? = some (.cells #[s1, .int .i64 x.2.2.1, s2] 56 (0, 0)) ∧ RowK g w 3 s1 (x.2.1.map rawO) ∧ RowK g w 1 s2 (x.2.2.2.map rawI)
theorem ldK_ren : ObRen LdK := by
  intro x g w g' d q h h1 h3 h4
  obtain ⟨p, m, posts, es, clock, i, pk, s1, s2, k1, k2, k3, k4, k5, k6, j2, j3, j4, j5⟩ := h
  exact ⟨p, m, posts, es, clock, i, pk, s1, s2, h1 _ k1, h4 _ k2, k3, h4 _ k4, k5, k6, h4 _ j2, j3, rowK_same j4 fun p hp => ⟨h4 p hp, rfl⟩, rowK_same j5 fun p hp => ⟨h4 p hp, rfl⟩⟩
theorem ldK_mono : ObMono LdK := by
  intro x g w g' w' d h h1 _ _ h4
  obtain ⟨p, m, posts, es, clock, i, pk, s1, s2, k1, k2, k3, k4, k5, k6, j2, j3, j4, j5⟩ := h
  exact ⟨p, m, posts, es, clock, i, pk, s1, s2, h1 _ _ k1, (h4 _ k2).1, by rw [(h4 _ k2).2]; exact k3, (h4 _ k4).1, by rw [(h4 _ k4).2]; exact k5, k6, (h4 _ j2).1, by rw [(h4 _ j2).2]; exact j3, rowK_same j4 h4, rowK_same j5 h4⟩
/-- There is none of a name. -/
def LdN (x : ByteArray) (g : Gh) (w : World) (d : Nat) : Prop :=
  ∃ p m posts es clock, g.bn d = some p ∧ g.tag p = .keep ∧ w.heap[p]? = some (.cells #[.map (some m), posts] 50 (0, 0)) ∧ g.tag m = .keep ∧ w.heap[m]? = some (.map (List.toArray es) clock) ∧ Instr.findNow .string (.string x) es 0 = some none
theorem ldN_mono : ObMono LdN := by
  intro x g w g' w' d h h1 _ _ h4
  obtain ⟨p, m, posts, es, clock, k1, k2, k3, k4, k5, k6⟩ := h
  exact ⟨p, m, posts, es, clock, h1 _ _ k1, (h4 _ k2).1, by rw [(h4 _ k2).2]; exact k3, (h4 _ k4).1, by rw [(h4 _ k4).2]; exact k5, k6⟩
theorem ldN_ren : ObRen LdN := by
  intro x g w g' d q h h1 h3 h4
  obtain ⟨p, m, posts, es, clock, k1, k2, k3, k4, k5, k6⟩ := h
  exact ⟨p, m, posts, es, clock, h1 _ k1, h4 _ k2, k3, h4 _ k4, k5, k6⟩
end Go.Proofs.Ytkbhbiceojmnaaa.E
namespace Go.Proofs.Ytkbhbiceojmnaaa.E
open Go
set_option linter.unusedVariables false
abbrev T45 : Type := (Int × (Int × Int))
abbrev T3 : Type := Int
abbrev T9 : Type := ByteArray
abbrev T31 : Type := (Bool × (ByteArray × (Int × (Int × Int))))
abbrev T900 : Type := (MapL × Int)
abbrev T901 : Type := OpL
abbrev T902 : Type := Acc
abbrev T903 : Type := (ByteArray × Acc)
abbrev T904 : Type := ByteArray
def τ : Nat → Type := fun e => bif Nat.beq e 45 then T45 else bif Nat.beq e 3 then T3 else bif Nat.beq e 9 then T9 else bif Nat.beq e 31 then T31 else bif Nat.beq e 900 then T900 else bif Nat.beq e 901 then T901 else bif Nat.beq e 902 then T902 else bif Nat.beq e 903 then T903 else bif Nat.beq e 904 then T904 else Unit
theorem τ_else {e : Nat} (h45 : ¬ e = 45) (h3 : ¬ e = 3) (h9 : ¬ e = 9) (h31 : ¬ e = 31) (h900 : ¬ e = 900) (h901 : ¬ e = 901) (h902 : ¬ e = 902) (h903 : ¬ e = 903) (h904 : ¬ e = 904) : τ e = Unit := by simp [τ, beq_false h45, beq_false h3, beq_false h9, beq_false h31, beq_false h900, beq_false h901, beq_false h902, beq_false h903, beq_false h904]
def κ : (e : Nat) → K τ (τ e) := fun e => if h45 : e = 45 then h45 ▸ (show K τ (τ 45) from ((.pair (.int .i64) (.pair (.int .i64) (.int .i64))) : K τ T45)) else if h3 : e = 3 then h3 ▸ (show K τ (τ 3) from ((.int .i64) : K τ T3)) else if h9 : e = 9 then h9 ▸ (show K τ (τ 9) from (.str : K τ T9)) else if h31 : e = 31 then h31 ▸ (show K τ (τ 31) from ((.pair .bool (.pair .str (.pair (.int .i64) (.pair (.int .i64) (.int .i64))))) : K τ T31)) else if h900 : e = 900 then h900 ▸ (show K τ (τ 900) from ((.obj LedD ledD_mono) : K τ T900)) else if h901 : e = 901 then h901 ▸ (show K τ (τ 901) from ((.obj LdO ldO_mono) : K τ T901)) else if h902 : e = 902 then h902 ▸ (show K τ (τ 902) from ((.pair (.sl 45) (.pair (.int .i64) (.sl 3))) : K τ T902)) else if h903 : e = 903 then h903 ▸ (show K τ (τ 903) from ((.obj LdK ldK_mono) : K τ T903)) else if h904 : e = 904 then h904 ▸ (show K τ (τ 904) from ((.obj LdN ldN_mono) : K τ T904)) else cast (congrArg (K τ) (τ_else h45 h3 h9 h31 h900 h901 h902 h903 h904).symm) K.unit
end Go.Proofs.Ytkbhbiceojmnaaa.E
namespace Go.Proofs.Ytkbhbiceojmnaaa.E
open Go
set_option linter.unusedVariables false
set_option maxRecDepth 100000
abbrev A32 : Type := ((List T45) × Unit)
abbrev B32 : Type := (Int × (List T45) × Unit)
def i32 : Fr τ A32 := (.own 0 45 .nil)
def o32 : Fr τ B32 := (.val 1000 (.int .i64) (.own 0 45 .nil))
def G32 : Nat → Option (Ct τ) := tabG []
def M32 : A32 → Option B32 := fun ⟨q', ()⟩ => (let v0 : Int := ↑(List.length q'); some (v0, (q', ())))
def N32 : A32 → Option B32 := M32
def C32 : Ctr τ := ⟨i32, o32, N32, 0⟩
theorem g32 : GOK κ Try.prog (G32) := gok_nil
theorem lall32 : ∀ Z : Zn, Z.rl = C32.o.keeps → Try.f32.ntmps ≤ Z.nt → ∀ p ∈ loops 0 (bodyOf Try.f32), ∀ C, (tabL []) p.1 = some C → LoopOK κ Try.prog Z p.2 C := fun Z h n => fun p hp => (by cases (show p ∈ ([] : List (Nat × Code)) from hp))
theorem e32 : ∀ x, M32 x = fnE Try.prog κ (G32) (tabL []) Try.f32 i32 o32 x := fun x => by kernel_rfl
theorem s32 : Sound κ Try.prog C32 32 := fn_sound (S := (tabL [])) (F := Try.f32) (code := bodyOf Try.f32) (by kernel_rfl) g32 Try.func32 (by kernel_rfl) (by kernel_rfl) (by kernel_rfl) lall32 (by kernel_rfl) (by kernel_rfl) fun x y h => (e32 x).symm.trans h
end Go.Proofs.Ytkbhbiceojmnaaa.E
namespace Go.Proofs.Ytkbhbiceojmnaaa.E
open Go
set_option linter.unusedVariables false
set_option maxRecDepth 100000
abbrev A55 : Type := (Int × Unit)
abbrev B55 : Type := (Bool × Unit)
def i55 : Fr τ A55 := (.val 0 (.int .i64) .nil)
def o55 : Fr τ B55 := (.val 1000 .bool .nil)
def G55 : Nat → Option (Ct τ) := tabG []
def M55 : A55 → Option B55 := fun ⟨x', ()⟩ => (some (x' != x', ()))
def N55 : A55 → Option B55 := M55
def C55 : Ctr τ := ⟨i55, o55, N55, 0⟩
theorem g55 : GOK κ Try.prog (G55) := gok_nil
theorem lall55 : ∀ Z : Zn, Z.rl = C55.o.keeps → Try.f55.ntmps ≤ Z.nt → ∀ p ∈ loops 0 (bodyOf Try.f55), ∀ C, (tabL []) p.1 = some C → LoopOK κ Try.prog Z p.2 C := fun Z h n => fun p hp => (by cases (show p ∈ ([] : List (Nat × Code)) from hp))
theorem e55 : ∀ x, M55 x = fnE Try.prog κ (G55) (tabL []) Try.f55 i55 o55 x := fun x => by kernel_rfl
theorem s55 : Sound κ Try.prog C55 55 := fn_sound (S := (tabL [])) (F := Try.f55) (code := bodyOf Try.f55) (by kernel_rfl) g55 Try.func55 (by kernel_rfl) (by kernel_rfl) (by kernel_rfl) lall55 (by kernel_rfl) (by kernel_rfl) fun x y h => (e55 x).symm.trans h
end Go.Proofs.Ytkbhbiceojmnaaa.E
namespace Go.Proofs.Ytkbhbiceojmnaaa.E
open Go
set_option linter.unusedVariables false
set_option maxRecDepth 100000
abbrev A41 : Type := (Int × Int × Unit)
abbrev B41 : Type := (Int × Unit)
def i41 : Fr τ A41 := (.val 0 (.int .i64) (.val 1 (.int .i64) .nil))
def o41 : Fr τ B41 := (.val 1000 (.int .i64) .nil)
def G41 (c55 : A55 → Option B55) : Nat → Option (Ct τ) := tabG [(55, (⟨i55, o55, c55, 0⟩ : Ctr τ))]
def M41 (c55 : A55 → Option B55) : A41 → Option B41 := fun ⟨x', ⟨y', ()⟩⟩ => ((c55 (x', ())).bind fun ⟨y0, ()⟩ => ((c55 (y', ())).bind fun ⟨y1, ()⟩ => (bif y0 then (bif y1 then (some (0, ())) else (some (-1, ()))) else (bif y1 then (some (1, ())) else (bif decide (x' < y') then (some (-1, ())) else (bif decide (x' > y') then (some (1, ())) else (some (0, ()))))))))
def N41 : A41 → Option B41 := M41 N55
def C41 : Ctr τ := ⟨i41, o41, N41, 0⟩
theorem g41 : GOK κ Try.prog (G41 N55) := (gok_cons s55 (keeps0 rfl) gok_nil)
theorem lall41 : ∀ Z : Zn, Z.rl = C41.o.keeps → Try.f41.ntmps ≤ Z.nt → ∀ p ∈ loops 0 (bodyOf Try.f41), ∀ C, (tabL []) p.1 = some C → LoopOK κ Try.prog Z p.2 C := fun Z h n => fun p hp => (by cases (show p ∈ ([] : List (Nat × Code)) from hp))
theorem e41 : ∀ (c55 : A55 → Option B55) x, M41 c55 x = fnE Try.prog κ (G41 c55) (tabL []) Try.f41 i41 o41 x := fun c55 x => by kernel_rfl
theorem s41 : Sound κ Try.prog C41 41 := fn_sound (S := (tabL [])) (F := Try.f41) (code := bodyOf Try.f41) (by kernel_rfl) g41 Try.func41 (by kernel_rfl) (by kernel_rfl) (by kernel_rfl) lall41 (by kernel_rfl) (by kernel_rfl) fun x y h => (e41 N55 x).symm.trans h
end Go.Proofs.Ytkbhbiceojmnaaa.E
namespace Go.Proofs.Ytkbhbiceojmnaaa.E
open Go
set_option linter.unusedVariables false
set_option maxRecDepth 100000
abbrev A56 : Type := (Int × Unit)
abbrev B56 : Type := (Bool × Unit)
def i56 : Fr τ A56 := (.val 0 (.int .i64) .nil)
def o56 : Fr τ B56 := (.val 1000 .bool .nil)
def G56 : Nat → Option (Ct τ) := tabG []
def M56 : A56 → Option B56 := fun ⟨x', ()⟩ => (some (x' != x', ()))
def N56 : A56 → Option B56 := M56
def C56 : Ctr τ := ⟨i56, o56, N56, 0⟩
theorem g56 : GOK κ Try.prog (G56) := gok_nil
theorem lall56 : ∀ Z : Zn, Z.rl = C56.o.keeps → Try.f56.ntmps ≤ Z.nt → ∀ p ∈ loops 0 (bodyOf Try.f56), ∀ C, (tabL []) p.1 = some C → LoopOK κ Try.prog Z p.2 C := fun Z h n => fun p hp => (by cases (show p ∈ ([] : List (Nat × Code)) from hp))
theorem e56 : ∀ x, M56 x = fnE Try.prog κ (G56) (tabL []) Try.f56 i56 o56 x := fun x => by kernel_rfl
theorem s56 : Sound κ Try.prog C56 56 := fn_sound (S := (tabL [])) (F := Try.f56) (code := bodyOf Try.f56) (by kernel_rfl) g56 Try.func56 (by kernel_rfl) (by kernel_rfl) (by kernel_rfl) lall56 (by kernel_rfl) (by kernel_rfl) fun x y h => (e56 x).symm.trans h
end Go.Proofs.Ytkbhbiceojmnaaa.E
namespace Go.Proofs.Ytkbhbiceojmnaaa.E
open Go
set_option linter.unusedVariables false
set_option maxRecDepth 100000
abbrev A42 : Type := (Int × Int × Unit)
abbrev B42 : Type := (Int × Unit)
def i42 : Fr τ A42 := (.val 0 (.int .i64) (.val 1 (.int .i64) .nil))
def o42 : Fr τ B42 := (.val 1000 (.int .i64) .nil)
def G42 (c56 : A56 → Option B56) : Nat → Option (Ct τ) := tabG [(56, (⟨i56, o56, c56, 0⟩ : Ctr τ))]
def M42 (c56 : A56 → Option B56) : A42 → Option B42 := fun ⟨x', ⟨y', ()⟩⟩ => ((c56 (x', ())).bind fun ⟨y0, ()⟩ => ((c56 (y', ())).bind fun ⟨y1, ()⟩ => (bif y0 then (bif y1 then (some (0, ())) else (some (-1, ()))) else (bif y1 then (some (1, ())) else (bif decide (x' < y') then (some (-1, ())) else (bif decide (x' > y') then (some (1, ())) else (some (0, ()))))))))
def N42 : A42 → Option B42 := M42 N56
def C42 : Ctr τ := ⟨i42, o42, N42, 0⟩
theorem g42 : GOK κ Try.prog (G42 N56) := (gok_cons s56 (keeps0 rfl) gok_nil)
theorem lall42 : ∀ Z : Zn, Z.rl = C42.o.keeps → Try.f42.ntmps ≤ Z.nt → ∀ p ∈ loops 0 (bodyOf Try.f42), ∀ C, (tabL []) p.1 = some C → LoopOK κ Try.prog Z p.2 C := fun Z h n => fun p hp => (by cases (show p ∈ ([] : List (Nat × Code)) from hp))
theorem e42 : ∀ (c56 : A56 → Option B56) x, M42 c56 x = fnE Try.prog κ (G42 c56) (tabL []) Try.f42 i42 o42 x := fun c56 x => by kernel_rfl
theorem s42 : Sound κ Try.prog C42 42 := fn_sound (S := (tabL [])) (F := Try.f42) (code := bodyOf Try.f42) (by kernel_rfl) g42 Try.func42 (by kernel_rfl) (by kernel_rfl) (by kernel_rfl) lall42 (by kernel_rfl) (by kernel_rfl) fun x y h => (e42 N56 x).symm.trans h
end Go.Proofs.Ytkbhbiceojmnaaa.E
namespace Go.Proofs.Ytkbhbiceojmnaaa.E
open Go
set_option linter.unusedVariables false
set_option maxRecDepth 100000
abbrev A40 : Type := ((List T3) × Unit)
abbrev B40 : Type := (Int × Unit)
def i40 : Fr τ A40 := (.val 0 (.sl 3) .nil)
def o40 : Fr τ B40 := (.val 1000 (.int .i64) .nil)
def G40 : Nat → Option (Ct τ) := tabG []
abbrev LA40_0 : Type := (Int × (List T3) × Int × Int × Unit)
abbrev LB40_0 : Type := (Int × Unit) ⊕ (Int × Unit)
def li40_0 : Fr τ LA40_0 := (.val 3 (.int .i64) (.val 6 (.sl 3) (.val 7 (.int .i64) (.val 8 (.int .i64) .nil))))
def lo40_0 : Ot τ LB40_0 := .alt (.exit 0) (.val 3 (.int .i64) .nil) (.one .ret (.val 2 (.int .i64) .nil))
def Q40_0 : LA40_0 → Option (LA40_0 ⊕ LB40_0) := fun ⟨zero', ⟨t6', ⟨t7', ⟨t8', ()⟩⟩⟩⟩ => (bif decide (t8' < t7') then ((bif decide (0 ≤ t8') then t6'[Int.toNat t8']? else none).bind fun y1 => (bif y1 != zero' then (some (.inr (.inr (y1, ())))) else (let v0 : Int := t8' + 1; let v1 : Int := IntKind.wrap IntKind.i64 v0; some (.inl (zero', (t6', (t7', (v1, ())))))))) else (some (.inr (.inl (zero', ())))))
def R40_0 : LA40_0 → Option (LA40_0 ⊕ LB40_0) := Q40_0
def L40_0 : Lc τ := ⟨li40_0, itrs R40_0, lo40_0⟩
def M40 (l40_0 : LA40_0 → Option LB40_0) : A40 → Option B40 := fun ⟨vals', ()⟩ => (let v0 : Int := ↑(List.length vals'); (l40_0 (0, (vals', (v0, (0, ()))))).bind fun y0 => (match y0 with | .inl ⟨y1, ()⟩ => (some (y1, ())) | .inr ⟨y1, ()⟩ => (some (y1, ()))))
def N40 : A40 → Option B40 := M40 (itrs R40_0)
def C40 : Ctr τ := ⟨i40, o40, N40, 0⟩
theorem g40 : GOK κ Try.prog (G40) := gok_nil
theorem le40_0 : ∀ x, Q40_0 x = run Try.prog κ (G40) (tabL []) 0 (loopAt Try.f40 0) (li40_0.build x) (rnd li40_0 lo40_0) := fun x => by kernel_rfl
theorem linner40_0 : ∀ Z : Zn, Z.rl = [] → 18 ≤ Z.nt → ∀ p ∈ loops 0 (loopAt Try.f40 0), ∀ C, (tabL []) p.1 = some C → LoopOK κ Try.prog Z p.2 C := fun Z h n => fun p hp => (by cases (show p ∈ ([] : List (Nat × Code)) from hp))
theorem lk40_0 : ∀ Z : Zn, Z.rl = [] → 18 ≤ Z.nt → LoopOK κ Try.prog Z (loopAt Try.f40 0) L40_0 := fun Z h n => loop_ok (S := (tabL [])) R40_0 (by kernel_rfl) g40 (by rw [h]; exact dsts_mono n _ (by kernel_rfl)) (linner40_0 Z h n) (by kernel_rfl) (by kernel_rfl) (le40_0) itrs_rounds
theorem lall40 : ∀ Z : Zn, Z.rl = C40.o.keeps → Try.f40.ntmps ≤ Z.nt → ∀ p ∈ loops 0 (bodyOf Try.f40), ∀ C, (tabL [(0, L40_0)]) p.1 = some C → LoopOK κ Try.prog Z p.2 C := fun Z h n => all_loops [(0, loopAt Try.f40 0)] (by kernel_rfl) (all_cons (fun C hC => (Option.some.inj hC : L40_0 = C) ▸ lk40_0 Z h n) (fun _ h => by cases h))
theorem e40 : ∀ (l40_0 : LA40_0 → Option LB40_0) x, M40 l40_0 x = fnE Try.prog κ (G40) (tabL [(0, (⟨li40_0, l40_0, lo40_0⟩ : Lc τ))]) Try.f40 i40 o40 x := fun l40_0 x => by kernel_rfl
theorem s40 : Sound κ Try.prog C40 40 := fn_sound (S := (tabL [(0, L40_0)])) (F := Try.f40) (code := bodyOf Try.f40) (by kernel_rfl) g40 Try.func40 (by kernel_rfl) (by kernel_rfl) (by kernel_rfl) lall40 (by kernel_rfl) (by kernel_rfl) fun x y h => (e40 (itrs R40_0) x).symm.trans h
end Go.Proofs.Ytkbhbiceojmnaaa.E
namespace Go.Proofs.Ytkbhbiceojmnaaa.E
open Go
set_option linter.unusedVariables false
set_option maxRecDepth 100000
abbrev A31 : Type := ((Int × (Int × Int)) × (Int × (Int × Int)) × Unit)
abbrev B31 : Type := (Int × Unit)
def i31 : Fr τ A31 := (.val 0 (.pair (.int .i64) (.pair (.int .i64) (.int .i64))) (.val 1 (.pair (.int .i64) (.pair (.int .i64) (.int .i64))) .nil))
def o31 : Fr τ B31 := (.val 1000 (.int .i64) .nil)
def G31 (c41 : A41 → Option B41) (c42 : A42 → Option B42) (c40 : A40 → Option B40) : Nat → Option (Ct τ) := tabG [(41, (⟨i41, o41, c41, 0⟩ : Ctr τ)), (42, (⟨i42, o42, c42, 0⟩ : Ctr τ)), (40, (⟨i40, o40, c40, 0⟩ : Ctr τ))]
def M31 (c41 : A41 → Option B41) (c42 : A42 → Option B42) (c40 : A40 → Option B40) : A31 → Option B31 := fun ⟨⟨a'_0, ⟨a'_1, a'_2⟩⟩, ⟨⟨b'_0, ⟨b'_1, b'_2⟩⟩, ()⟩⟩ => ((c41 (a'_1, (b'_1, ()))).bind fun ⟨y0, ()⟩ => ((c42 (a'_0, (b'_0, ()))).bind fun ⟨y1, ()⟩ => ((c40 ([y0, y1], ())).bind fun ⟨y2, ()⟩ => (some (y2, ())))))
def N31 : A31 → Option B31 := M31 N41 N42 N40
def C31 : Ctr τ := ⟨i31, o31, N31, 0⟩
theorem g31 : GOK κ Try.prog (G31 N41 N42 N40) := (gok_cons s41 (keeps0 rfl) (gok_cons s42 (keeps0 rfl) (gok_cons s40 (keeps0 rfl) gok_nil)))
theorem lall31 : ∀ Z : Zn, Z.rl = C31.o.keeps → Try.f31.ntmps ≤ Z.nt → ∀ p ∈ loops 0 (bodyOf Try.f31), ∀ C, (tabL []) p.1 = some C → LoopOK κ Try.prog Z p.2 C := fun Z h n => fun p hp => (by cases (show p ∈ ([] : List (Nat × Code)) from hp))
theorem e31 : ∀ (c41 : A41 → Option B41) (c42 : A42 → Option B42) (c40 : A40 → Option B40) x, M31 c41 c42 c40 x = fnE Try.prog κ (G31 c41 c42 c40) (tabL []) Try.f31 i31 o31 x := fun c41 c42 c40 x => by kernel_rfl
theorem s31 : Sound κ Try.prog C31 31 := fn_sound (S := (tabL [])) (F := Try.f31) (code := bodyOf Try.f31) (by kernel_rfl) g31 Try.func31 (by kernel_rfl) (by kernel_rfl) (by kernel_rfl) lall31 (by kernel_rfl) (by kernel_rfl) fun x y h => (e31 N41 N42 N40 x).symm.trans h
end Go.Proofs.Ytkbhbiceojmnaaa.E
namespace Go.Proofs.Ytkbhbiceojmnaaa.E
open Go
set_option linter.unusedVariables false
set_option maxRecDepth 100000
abbrev A93 : Type := ((List T45) × Int × Int × Unit)
abbrev B93 : Type := (Bool × (List T45) × Unit)
def i93 : Fr τ A93 := (.own 0 45 (.val 1 (.int .i64) (.val 2 (.int .i64) .nil)))
def o93 : Fr τ B93 := (.val 1000 .bool (.own 0 45 .nil))
def G93 (c31 : A31 → Option B31) : Nat → Option (Ct τ) := tabG [(31, (⟨i31, o31, c31, 0⟩ : Ctr τ))]
def M93 (c31 : A31 → Option B31) : A93 → Option B93 := fun ⟨q', ⟨i', ⟨j', ()⟩⟩⟩ => (let v0 : Int := ↑(List.length q'); (bif decide (0 ≤ i') && decide (i' < v0) then some () else none).bind fun () => ((q'[Int.toNat i']?).bind fun ⟨y1_0, ⟨y1_1, y1_2⟩⟩ => ((bif decide (0 ≤ j') && decide (j' < v0) then some () else none).bind fun () => ((q'[Int.toNat j']?).bind fun ⟨y3_0, ⟨y3_1, y3_2⟩⟩ => ((c31 ((y1_0, (y1_1, y1_2)), ((y3_0, (y3_1, y3_2)), ()))).bind fun ⟨y4, ()⟩ => (some (decide (y4 < 0), (q', ()))))))))
def N93 : A93 → Option B93 := M93 N31
def C93 : Ctr τ := ⟨i93, o93, N93, 0⟩
theorem g93 : GOK κ Try.prog (G93 N31) := (gok_cons s31 (keeps0 rfl) gok_nil)
theorem lall93 : ∀ Z : Zn, Z.rl = C93.o.keeps → Try.f93.ntmps ≤ Z.nt → ∀ p ∈ loops 0 (bodyOf Try.f93), ∀ C, (tabL []) p.1 = some C → LoopOK κ Try.prog Z p.2 C := fun Z h n => fun p hp => (by cases (show p ∈ ([] : List (Nat × Code)) from hp))
theorem e93 : ∀ (c31 : A31 → Option B31) x, M93 c31 x = fnE Try.prog κ (G93 c31) (tabL []) Try.f93 i93 o93 x := fun c31 x => by kernel_rfl
theorem s93 : Sound κ Try.prog C93 93 := fn_sound (S := (tabL [])) (F := Try.f93) (code := bodyOf Try.f93) (by kernel_rfl) g93 Try.func93 (by kernel_rfl) (by kernel_rfl) (by kernel_rfl) lall93 (by kernel_rfl) (by kernel_rfl) fun x y h => (e93 N31 x).symm.trans h
end Go.Proofs.Ytkbhbiceojmnaaa.E
namespace Go.Proofs.Ytkbhbiceojmnaaa.E
open Go
set_option linter.unusedVariables false
set_option maxRecDepth 100000
abbrev A94 : Type := ((List T45) × Int × Int × Unit)
abbrev B94 : Type := ((List T45) × Unit)
def i94 : Fr τ A94 := (.own 0 45 (.val 1 (.int .i64) (.val 2 (.int .i64) .nil)))
def o94 : Fr τ B94 := (.own 0 45 .nil)
def G94 : Nat → Option (Ct τ) := tabG []
def M94 : A94 → Option B94 := fun ⟨q', ⟨i', ⟨j', ()⟩⟩⟩ => (let v0 : Int := ↑(List.length q'); (bif decide (0 ≤ j') && decide (j' < v0) then some () else none).bind fun () => ((q'[Int.toNat j']?).bind fun ⟨y1_0, ⟨y1_1, y1_2⟩⟩ => ((bif decide (0 ≤ i') && decide (i' < v0) then some () else none).bind fun () => ((q'[Int.toNat i']?).bind fun ⟨y3_0, ⟨y3_1, y3_2⟩⟩ => ((bif decide (0 ≤ i') && decide (i' < v0) then some () else none).bind fun () => ((((q'[Int.toNat i']?).bind fun ⟨y45_0, ⟨y45_1, y45_2⟩⟩ => (some (y1_0, (y1_1, y1_2)))) : (Option (Int × (Int × Int)))).bind fun ⟨y5_0, ⟨y5_1, y5_2⟩⟩ => (let v1 : Int := ↑(List.length (List.set q' (Int.toNat i') (y5_0, y5_1, y5_2))); (bif decide (0 ≤ j') && decide (j' < v1) then some () else none).bind fun () => (((((List.set q' (Int.toNat i') (y5_0, y5_1, y5_2))[Int.toNat j']?).bind fun ⟨y47_0, ⟨y47_1, y47_2⟩⟩ => (some (y3_0, (y3_1, y3_2)))) : (Option (Int × (Int × Int)))).bind fun ⟨y7_0, ⟨y7_1, y7_2⟩⟩ => (some (List.set (List.set q' (Int.toNat i') (y5_0, y5_1, y5_2)) (Int.toNat j') (y7_0, y7_1, y7_2), ()))))))))))
def N94 : A94 → Option B94 := M94
def C94 : Ctr τ := ⟨i94, o94, N94, 0⟩
theorem g94 : GOK κ Try.prog (G94) := gok_nil
theorem lall94 : ∀ Z : Zn, Z.rl = C94.o.keeps → Try.f94.ntmps ≤ Z.nt → ∀ p ∈ loops 0 (bodyOf Try.f94), ∀ C, (tabL []) p.1 = some C → LoopOK κ Try.prog Z p.2 C := fun Z h n => fun p hp => (by cases (show p ∈ ([] : List (Nat × Code)) from hp))
theorem e94 : ∀ x, M94 x = fnE Try.prog κ (G94) (tabL []) Try.f94 i94 o94 x := fun x => by kernel_rfl
theorem s94 : Sound κ Try.prog C94 94 := fn_sound (S := (tabL [])) (F := Try.f94) (code := bodyOf Try.f94) (by kernel_rfl) g94 Try.func94 (by kernel_rfl) (by kernel_rfl) (by kernel_rfl) lall94 (by kernel_rfl) (by kernel_rfl) fun x y h => (e94 x).symm.trans h
end Go.Proofs.Ytkbhbiceojmnaaa.E
namespace Go.Proofs.Ytkbhbiceojmnaaa.E
open Go
set_option linter.unusedVariables false
set_option maxRecDepth 100000
abbrev A44 : Type := ((List T45 × (Int × (List T3 × Unit))) × Int × Int × Unit)
abbrev B44 : Type := (Bool × (List T45 × (Int × (List T3 × Unit))) × Unit)
def i44 : Fr τ A44 := (.ptr 0 (some 63) 56 (.own 45 (.val (.int .i64) (.own 3 .nil))) (.val 1 (.int .i64) (.val 2 (.int .i64) .nil)))
def o44 : Fr τ B44 := (.val 1000 .bool (.ptr 0 (some 63) 56 (.own 45 (.val (.int .i64) (.own 3 .nil))) .nil))
def G44 (c93 : A93 → Option B93) (c94 : A94 → Option B94) : Nat → Option (Ct τ) := tabG [(93, (⟨i93, o93, c93, 0⟩ : Ctr τ)), (94, (⟨i94, o94, c94, 0⟩ : Ctr τ))]
abbrev LA44_0 : Type := ((List T45 × (Int × (List T3 × Unit))) × Int × Int × Int × Unit)
abbrev LB44_0 : Type := ((List T45 × (Int × (List T3 × Unit))) × Int × Int × Unit)
def li44_0 : Fr τ LA44_0 := (.ptr 0 (some 63) 56 (.own 45 (.val (.int .i64) (.own 3 .nil))) (.val 1 (.int .i64) (.val 2 (.int .i64) (.val 7 (.int .i64) .nil))))
def lo44_0 : Ot τ LB44_0 := .one (.exit 0) (.ptr 0 (some 63) 56 (.own 45 (.val (.int .i64) (.own 3 .nil))) (.val 1 (.int .i64) (.val 7 (.int .i64) .nil)))
def Q44_0 (c93 : A93 → Option B93) (c94 : A94 → Option B94) : LA44_0 → Option (LA44_0 ⊕ LB44_0) := fun ⟨⟨h'_0, ⟨h'_1, ⟨h'_2, ()⟩⟩⟩, ⟨i0', ⟨n', ⟨i', ()⟩⟩⟩⟩ => (let v0 : Int := 2 * i'; let v1 : Int := IntKind.wrap IntKind.i64 v0; let v2 : Int := v1 + 1; let v3 : Int := IntKind.wrap IntKind.i64 v2; bif decide (v3 ≥ n') then (some (.inr ((h'_0, (h'_1, (h'_2, ()))), (i0', (i', ()))))) else (bif decide (v3 < 0) then (some (.inr ((h'_0, (h'_1, (h'_2, ()))), (i0', (i', ()))))) else (let v4 : Int := v3 + 1; let v5 : Int := IntKind.wrap IntKind.i64 v4; bif decide (v5 < n') then ((c93 (h'_0, (v5, (v3, ())))).bind fun ⟨y3_0, ⟨y3_1, ()⟩⟩ => (bif y3_0 then ((c93 (y3_1, (v5, (i', ())))).bind fun ⟨y5_0, ⟨y5_1, ()⟩⟩ => (bif !y5_0 then (some (.inr ((y5_1, (h'_1, (h'_2, ()))), (i0', (i', ()))))) else ((c94 (y5_1, (i', (v5, ())))).bind fun ⟨y7, ()⟩ => (some (.inl ((y7, (h'_1, (h'_2, ()))), (i0', (n', (v5, ()))))))))) else ((c93 (y3_1, (v3, (i', ())))).bind fun ⟨y5_0, ⟨y5_1, ()⟩⟩ => (bif !y5_0 then (some (.inr ((y5_1, (h'_1, (h'_2, ()))), (i0', (i', ()))))) else ((c94 (y5_1, (i', (v3, ())))).bind fun ⟨y7, ()⟩ => (some (.inl ((y7, (h'_1, (h'_2, ()))), (i0', (n', (v3, ()))))))))))) else ((c93 (h'_0, (v3, (i', ())))).bind fun ⟨y3_0, ⟨y3_1, ()⟩⟩ => (bif !y3_0 then (some (.inr ((y3_1, (h'_1, (h'_2, ()))), (i0', (i', ()))))) else ((c94 (y3_1, (i', (v3, ())))).bind fun ⟨y5, ()⟩ => (some (.inl ((y5, (h'_1, (h'_2, ()))), (i0', (n', (v3, ()))))))))))))
def R44_0 : LA44_0 → Option (LA44_0 ⊕ LB44_0) := Q44_0 N93 N94
def L44_0 : Lc τ := ⟨li44_0, itrs R44_0, lo44_0⟩
def M44 (c93 : A93 → Option B93) (c94 : A94 → Option B94) (l44_0 : LA44_0 → Option LB44_0) : A44 → Option B44 := fun ⟨⟨h'_0, ⟨h'_1, ⟨h'_2, ()⟩⟩⟩, ⟨i0', ⟨n', ()⟩⟩⟩ => ((l44_0 ((h'_0, (h'_1, (h'_2, ()))), (i0', (n', (i0', ()))))).bind fun ⟨⟨y0_0, ⟨y0_1, ⟨y0_2, ()⟩⟩⟩, ⟨y0_3, ⟨y0_4, ()⟩⟩⟩ => (some (decide (y0_4 > y0_3), ((y0_0, (y0_1, (y0_2, ()))), ()))))
def N44 : A44 → Option B44 := M44 N93 N94 (itrs R44_0)
def C44 : Ctr τ := ⟨i44, o44, N44, 0⟩
theorem g44 : GOK κ Try.prog (G44 N93 N94) := (gok_cons s93 (keeps0 rfl) (gok_cons s94 (keeps0 rfl) gok_nil))
theorem le44_0 : ∀ (c93 : A93 → Option B93) (c94 : A94 → Option B94) x, Q44_0 c93 c94 x = run Try.prog κ (G44 c93 c94) (tabL []) 0 (loopAt Try.f44 0) (li44_0.build x) (rnd li44_0 lo44_0) := fun c93 c94 x => by kernel_rfl
theorem linner44_0 : ∀ Z : Zn, Z.rl = [0] → 48 ≤ Z.nt → ∀ p ∈ loops 0 (loopAt Try.f44 0), ∀ C, (tabL []) p.1 = some C → LoopOK κ Try.prog Z p.2 C := fun Z h n => fun p hp => (by cases (show p ∈ ([] : List (Nat × Code)) from hp))
theorem lk44_0 : ∀ Z : Zn, Z.rl = [0] → 48 ≤ Z.nt → LoopOK κ Try.prog Z (loopAt Try.f44 0) L44_0 := fun Z h n => loop_ok (S := (tabL [])) R44_0 (by kernel_rfl) g44 (by rw [h]; exact dsts_mono n _ (by kernel_rfl)) (linner44_0 Z h n) (by kernel_rfl) (by kernel_rfl) (le44_0 N93 N94) itrs_rounds
theorem lall44 : ∀ Z : Zn, Z.rl = C44.o.keeps → Try.f44.ntmps ≤ Z.nt → ∀ p ∈ loops 0 (bodyOf Try.f44), ∀ C, (tabL [(0, L44_0)]) p.1 = some C → LoopOK κ Try.prog Z p.2 C := fun Z h n => all_loops [(0, loopAt Try.f44 0)] (by kernel_rfl) (all_cons (fun C hC => (Option.some.inj hC : L44_0 = C) ▸ lk44_0 Z h n) (fun _ h => by cases h))
theorem e44 : ∀ (c93 : A93 → Option B93) (c94 : A94 → Option B94) (l44_0 : LA44_0 → Option LB44_0) x, M44 c93 c94 l44_0 x = fnE Try.prog κ (G44 c93 c94) (tabL [(0, (⟨li44_0, l44_0, lo44_0⟩ : Lc τ))]) Try.f44 i44 o44 x := fun c93 c94 l44_0 x => by kernel_rfl
theorem s44 : Sound κ Try.prog C44 44 := fn_sound (S := (tabL [(0, L44_0)])) (F := Try.f44) (code := bodyOf Try.f44) (by kernel_rfl) g44 Try.func44 (by kernel_rfl) (by kernel_rfl) (by kernel_rfl) lall44 (by kernel_rfl) (by kernel_rfl) fun x y h => (e44 N93 N94 (itrs R44_0) x).symm.trans h
end Go.Proofs.Ytkbhbiceojmnaaa.E
namespace Go.Proofs.Ytkbhbiceojmnaaa.E
open Go
set_option linter.unusedVariables false
set_option maxRecDepth 100000
abbrev A95 : Type := ((List T45 × (Int × (List T3 × Unit))) × Unit)
abbrev B95 : Type := (T45 × (List T45 × (Int × (List T3 × Unit))) × Unit)
def i95 : Fr τ A95 := (.ptr 0 none 56 (.own 45 (.val (.int .i64) (.own 3 .nil))) .nil)
def o95 : Fr τ B95 := (.val 1000 (.box 45 45) (.ptr 0 none 56 (.own 45 (.val (.int .i64) (.own 3 .nil))) .nil))
def G95 : Nat → Option (Ct τ) := tabG []
def M95 : A95 → Option B95 := fun ⟨⟨q'_0, ⟨q'_1, ⟨q'_2, ()⟩⟩⟩, ()⟩ => (let v0 : Int := ↑(List.length q'_0); let v1 : Int := v0 - 1; let v2 : Int := IntKind.wrap IntKind.i64 v1; (bif decide (0 ≤ v2) && decide (v2 < v0) then some () else none).bind fun () => ((q'_0[Int.toNat v2]?).bind fun ⟨y1_0, ⟨y1_1, y1_2⟩⟩ => ((bif true && decide (0 ≤ v2) && decide (v2 ≤ v0) then some () else none).bind fun () => ((bif Nat.ble (Int.toNat v2 - 0) (List.length q'_0) then some () else none).bind fun () => (some ((y1_0, (y1_1, y1_2)), ((List.take (Int.toNat v2 - 0) q'_0, (q'_1, (q'_2, ()))), ())))))))
def N95 : A95 → Option B95 := M95
def C95 : Ctr τ := ⟨i95, o95, N95, 0⟩
theorem g95 : GOK κ Try.prog (G95) := gok_nil
theorem lall95 : ∀ Z : Zn, Z.rl = C95.o.keeps → Try.f95.ntmps ≤ Z.nt → ∀ p ∈ loops 0 (bodyOf Try.f95), ∀ C, (tabL []) p.1 = some C → LoopOK κ Try.prog Z p.2 C := fun Z h n => fun p hp => (by cases (show p ∈ ([] : List (Nat × Code)) from hp))
theorem e95 : ∀ x, M95 x = fnE Try.prog κ (G95) (tabL []) Try.f95 i95 o95 x := fun x => by kernel_rfl
theorem s95 : Sound κ Try.prog C95 95 := fn_sound (S := (tabL [])) (F := Try.f95) (code := bodyOf Try.f95) (by kernel_rfl) g95 Try.func95 (by kernel_rfl) (by kernel_rfl) (by kernel_rfl) lall95 (by kernel_rfl) (by kernel_rfl) fun x y h => (e95 x).symm.trans h
end Go.Proofs.Ytkbhbiceojmnaaa.E
namespace Go.Proofs.Ytkbhbiceojmnaaa.E
open Go
set_option linter.unusedVariables false
set_option maxRecDepth 100000
abbrev A34 : Type := ((List T45 × (Int × (List T3 × Unit))) × Unit)
abbrev B34 : Type := (T45 × (List T45 × (Int × (List T3 × Unit))) × Unit)
def i34 : Fr τ A34 := (.ptr 0 (some 63) 56 (.own 45 (.val (.int .i64) (.own 3 .nil))) .nil)
def o34 : Fr τ B34 := (.val 1000 (.box 45 45) (.ptr 0 (some 63) 56 (.own 45 (.val (.int .i64) (.own 3 .nil))) .nil))
def G34 (c44 : A44 → Option B44) (c95 : A95 → Option B95) (c32 : A32 → Option B32) (c94 : A94 → Option B94) : Nat → Option (Ct τ) := tabG [(44, (⟨i44, o44, c44, 0⟩ : Ctr τ)), (95, (⟨i95, o95, c95, 0⟩ : Ctr τ)), (32, (⟨i32, o32, c32, 0⟩ : Ctr τ)), (94, (⟨i94, o94, c94, 0⟩ : Ctr τ))]
def M34 (c44 : A44 → Option B44) (c95 : A95 → Option B95) (c32 : A32 → Option B32) (c94 : A94 → Option B94) : A34 → Option B34 := fun ⟨⟨h'_0, ⟨h'_1, ⟨h'_2, ()⟩⟩⟩, ()⟩ => ((c32 (h'_0, ())).bind fun ⟨y0_0, ⟨y0_1, ()⟩⟩ => (let v0 : Int := y0_0 - 1; let v1 : Int := IntKind.wrap IntKind.i64 v0; (c94 (y0_1, (0, (v1, ())))).bind fun ⟨y1, ()⟩ => ((c44 ((y1, (h'_1, (h'_2, ()))), (0, (v1, ())))).bind fun ⟨y2_0, ⟨⟨y2_1, ⟨y2_2, ⟨y2_3, ()⟩⟩⟩, ()⟩⟩ => ((c95 ((y2_1, (y2_2, (y2_3, ()))), ())).bind fun ⟨⟨y3_0, ⟨y3_1, y3_2⟩⟩, ⟨⟨y3_3, ⟨y3_4, ⟨y3_5, ()⟩⟩⟩, ()⟩⟩ => (some ((y3_0, (y3_1, y3_2)), ((y3_3, (y3_4, (y3_5, ()))), ())))))))
def N34 : A34 → Option B34 := M34 N44 N95 N32 N94
def C34 : Ctr τ := ⟨i34, o34, N34, 0⟩
theorem g34 : GOK κ Try.prog (G34 N44 N95 N32 N94) := (gok_cons s44 (keeps0 rfl) (gok_cons s95 (keeps0 rfl) (gok_cons s32 (keeps0 rfl) (gok_cons s94 (keeps0 rfl) gok_nil))))
theorem lall34 : ∀ Z : Zn, Z.rl = C34.o.keeps → Try.f34.ntmps ≤ Z.nt → ∀ p ∈ loops 0 (bodyOf Try.f34), ∀ C, (tabL []) p.1 = some C → LoopOK κ Try.prog Z p.2 C := fun Z h n => fun p hp => (by cases (show p ∈ ([] : List (Nat × Code)) from hp))
theorem e34 : ∀ (c44 : A44 → Option B44) (c95 : A95 → Option B95) (c32 : A32 → Option B32) (c94 : A94 → Option B94) x, M34 c44 c95 c32 c94 x = fnE Try.prog κ (G34 c44 c95 c32 c94) (tabL []) Try.f34 i34 o34 x := fun c44 c95 c32 c94 x => by kernel_rfl
theorem s34 : Sound κ Try.prog C34 34 := fn_sound (S := (tabL [])) (F := Try.f34) (code := bodyOf Try.f34) (by kernel_rfl) g34 Try.func34 (by kernel_rfl) (by kernel_rfl) (by kernel_rfl) lall34 (by kernel_rfl) (by kernel_rfl) fun x y h => (e34 N44 N95 N32 N94 x).symm.trans h
end Go.Proofs.Ytkbhbiceojmnaaa.E
namespace Go.Proofs.Ytkbhbiceojmnaaa.E
open Go
set_option linter.unusedVariables false
set_option maxRecDepth 100000
abbrev A22 : Type := ((List T45 × (Int × (List T3 × Unit))) × Unit)
abbrev B22 : Type := ((List T45 × (Int × (List T3 × Unit))) × Unit)
def i22 : Fr τ A22 := (.ptr 0 none 56 (.own 45 (.val (.int .i64) (.own 3 .nil))) .nil)
def o22 : Fr τ B22 := (.ptr 0 none 56 (.own 45 (.val (.int .i64) (.own 3 .nil))) .nil)
def G22 (c32 : A32 → Option B32) (c34 : A34 → Option B34) : Nat → Option (Ct τ) := tabG [(32, (⟨i32, o32, c32, 0⟩ : Ctr τ)), (34, (⟨i34, o34, c34, 0⟩ : Ctr τ))]
abbrev LA22_0 : Type := ((List T45 × (Int × (List T3 × Unit))) × Unit)
abbrev LB22_0 : Type := ((List T45 × (Int × (List T3 × Unit))) × Unit)
def li22_0 : Fr τ LA22_0 := (.ptr 0 none 56 (.own 45 (.val (.int .i64) (.own 3 .nil))) .nil)
def lo22_0 : Ot τ LB22_0 := .one (.exit 0) (.ptr 0 none 56 (.own 45 (.val (.int .i64) (.own 3 .nil))) .nil)
def Q22_0 (c32 : A32 → Option B32) (c34 : A34 → Option B34) : LA22_0 → Option (LA22_0 ⊕ LB22_0) := fun ⟨⟨a'_0, ⟨a'_1, ⟨a'_2, ()⟩⟩⟩, ()⟩ => (bif decide (a'_1 > 0) then ((c32 (a'_0, ())).bind fun ⟨y1_0, ⟨y1_1, ()⟩⟩ => (bif decide (y1_0 > 0) then (let v0 : Int := ↑(List.length y1_1); (bif true && decide (0 < v0) then some () else none).bind fun () => ((y1_1[0]?).bind fun ⟨y4_0, ⟨y4_1, y4_2⟩⟩ => ((y1_1[0]?).bind fun ⟨y5_0, ⟨y5_1, y5_2⟩⟩ => ((((y1_1[0]?).bind fun ⟨y46_0, ⟨y46_1, y46_2⟩⟩ => (let v1 : Int := y5_2 - if y4_2 < a'_1 then y4_2 else a'_1; let v2 : Int := IntKind.wrap IntKind.i64 v1; some (y46_0, (y46_1, v2)))) : (Option (Int × (Int × Int)))).bind fun ⟨y6_0, ⟨y6_1, y6_2⟩⟩ => (((List.set y1_1 0 (y6_0, y6_1, y6_2))[0]?).bind fun ⟨y7_0, ⟨y7_1, y7_2⟩⟩ => (bif y7_2 == 0 then (let v1 : Int := a'_1 - if y4_2 < a'_1 then y4_2 else a'_1; let v2 : Int := IntKind.wrap IntKind.i64 v1; (c34 ((List.set y1_1 0 (y6_0, y6_1, y6_2), (v2, (a'_2, ()))), ())).bind fun ⟨⟨y9_0, ⟨y9_1, y9_2⟩⟩, ⟨⟨y9_3, ⟨y9_4, ⟨y9_5, ()⟩⟩⟩, ()⟩⟩ => (some (.inl ((y9_3, (y9_4, (y9_5, ()))), ())))) else (let v1 : Int := a'_1 - if y4_2 < a'_1 then y4_2 else a'_1; let v2 : Int := IntKind.wrap IntKind.i64 v1; some (.inl ((List.set y1_1 0 (y6_0, y6_1, y6_2), (v2, (a'_2, ()))), ()))))))))) else (some (.inr ((y1_1, (a'_1, (a'_2, ()))), ()))))) else (some (.inr ((a'_0, (a'_1, (a'_2, ()))), ()))))
def R22_0 : LA22_0 → Option (LA22_0 ⊕ LB22_0) := Q22_0 N32 N34
def L22_0 : Lc τ := ⟨li22_0, itrs R22_0, lo22_0⟩
def M22 (c32 : A32 → Option B32) (c34 : A34 → Option B34) (l22_0 : LA22_0 → Option LB22_0) : A22 → Option B22 := fun ⟨⟨a'_0, ⟨a'_1, ⟨a'_2, ()⟩⟩⟩, ()⟩ => ((l22_0 ((a'_0, (a'_1, (a'_2, ()))), ())).bind fun ⟨⟨y0_0, ⟨y0_1, ⟨y0_2, ()⟩⟩⟩, ()⟩ => (some ((y0_0, (y0_1, (y0_2, ()))), ())))
def N22 : A22 → Option B22 := M22 N32 N34 (itrs R22_0)
def C22 : Ctr τ := ⟨i22, o22, N22, 0⟩
theorem g22 : GOK κ Try.prog (G22 N32 N34) := (gok_cons s32 (keeps0 rfl) (gok_cons s34 (keeps0 rfl) gok_nil))
theorem le22_0 : ∀ (c32 : A32 → Option B32) (c34 : A34 → Option B34) x, Q22_0 c32 c34 x = run Try.prog κ (G22 c32 c34) (tabL []) 0 (loopAt Try.f22 0) (li22_0.build x) (rnd li22_0 lo22_0) := fun c32 c34 x => by kernel_rfl
theorem linner22_0 : ∀ Z : Zn, Z.rl = [0] → 57 ≤ Z.nt → ∀ p ∈ loops 0 (loopAt Try.f22 0), ∀ C, (tabL []) p.1 = some C → LoopOK κ Try.prog Z p.2 C := fun Z h n => fun p hp => (by cases (show p ∈ ([] : List (Nat × Code)) from hp))
theorem lk22_0 : ∀ Z : Zn, Z.rl = [0] → 57 ≤ Z.nt → LoopOK κ Try.prog Z (loopAt Try.f22 0) L22_0 := fun Z h n => loop_ok (S := (tabL [])) R22_0 (by kernel_rfl) g22 (by rw [h]; exact dsts_mono n _ (by kernel_rfl)) (linner22_0 Z h n) (by kernel_rfl) (by kernel_rfl) (le22_0 N32 N34) itrs_rounds
theorem lall22 : ∀ Z : Zn, Z.rl = C22.o.keeps → Try.f22.ntmps ≤ Z.nt → ∀ p ∈ loops 0 (bodyOf Try.f22), ∀ C, (tabL [(0, L22_0)]) p.1 = some C → LoopOK κ Try.prog Z p.2 C := fun Z h n => all_loops [(0, loopAt Try.f22 0)] (by kernel_rfl) (all_cons (fun C hC => (Option.some.inj hC : L22_0 = C) ▸ lk22_0 Z h n) (fun _ h => by cases h))
theorem e22 : ∀ (c32 : A32 → Option B32) (c34 : A34 → Option B34) (l22_0 : LA22_0 → Option LB22_0) x, M22 c32 c34 l22_0 x = fnE Try.prog κ (G22 c32 c34) (tabL [(0, (⟨li22_0, l22_0, lo22_0⟩ : Lc τ))]) Try.f22 i22 o22 x := fun c32 c34 l22_0 x => by kernel_rfl
theorem s22 : Sound κ Try.prog C22 22 := fn_sound (S := (tabL [(0, L22_0)])) (F := Try.f22) (code := bodyOf Try.f22) (by kernel_rfl) g22 Try.func22 (by kernel_rfl) (by kernel_rfl) (by kernel_rfl) lall22 (by kernel_rfl) (by kernel_rfl) fun x y h => (e22 N32 N34 (itrs R22_0) x).symm.trans h
end Go.Proofs.Ytkbhbiceojmnaaa.E
namespace Go.Proofs.Ytkbhbiceojmnaaa.E
open Go
set_option linter.unusedVariables false
set_option maxRecDepth 100000
abbrev A36 : Type := ((List T45 × (Int × (List T3 × Unit))) × Int × Unit)
abbrev B36 : Type := ((List T45 × (Int × (List T3 × Unit))) × Unit)
def i36 : Fr τ A36 := (.ptr 0 (some 63) 56 (.own 45 (.val (.int .i64) (.own 3 .nil))) (.val 1 (.int .i64) .nil))
def o36 : Fr τ B36 := (.ptr 0 (some 63) 56 (.own 45 (.val (.int .i64) (.own 3 .nil))) .nil)
def G36 (c93 : A93 → Option B93) (c94 : A94 → Option B94) : Nat → Option (Ct τ) := tabG [(93, (⟨i93, o93, c93, 0⟩ : Ctr τ)), (94, (⟨i94, o94, c94, 0⟩ : Ctr τ))]
abbrev LA36_0 : Type := ((List T45 × (Int × (List T3 × Unit))) × Int × Unit)
abbrev LB36_0 : Type := ((List T45 × (Int × (List T3 × Unit))) × Unit)
def li36_0 : Fr τ LA36_0 := (.ptr 0 (some 63) 56 (.own 45 (.val (.int .i64) (.own 3 .nil))) (.val 1 (.int .i64) .nil))
def lo36_0 : Ot τ LB36_0 := .one (.exit 0) (.ptr 0 (some 63) 56 (.own 45 (.val (.int .i64) (.own 3 .nil))) .nil)
def Q36_0 (c93 : A93 → Option B93) (c94 : A94 → Option B94) : LA36_0 → Option (LA36_0 ⊕ LB36_0) := fun ⟨⟨h'_0, ⟨h'_1, ⟨h'_2, ()⟩⟩⟩, ⟨j', ()⟩⟩ => (let v0 : Int := j' - 1; let v1 : Int := IntKind.wrap IntKind.i64 v0; let v2 : Int := Int.tdiv v1 2; let v3 : Int := IntKind.wrap IntKind.i64 v2; bif v3 == j' then (some (.inr ((h'_0, (h'_1, (h'_2, ()))), ()))) else ((c93 (h'_0, (j', (v3, ())))).bind fun ⟨y1_0, ⟨y1_1, ()⟩⟩ => (bif !y1_0 then (some (.inr ((y1_1, (h'_1, (h'_2, ()))), ()))) else ((c94 (y1_1, (v3, (j', ())))).bind fun ⟨y3, ()⟩ => (some (.inl ((y3, (h'_1, (h'_2, ()))), (v3, ()))))))))
def R36_0 : LA36_0 → Option (LA36_0 ⊕ LB36_0) := Q36_0 N93 N94
def L36_0 : Lc τ := ⟨li36_0, itrs R36_0, lo36_0⟩
def M36 (c93 : A93 → Option B93) (c94 : A94 → Option B94) (l36_0 : LA36_0 → Option LB36_0) : A36 → Option B36 := fun ⟨⟨h'_0, ⟨h'_1, ⟨h'_2, ()⟩⟩⟩, ⟨j', ()⟩⟩ => ((l36_0 ((h'_0, (h'_1, (h'_2, ()))), (j', ()))).bind fun ⟨⟨y0_0, ⟨y0_1, ⟨y0_2, ()⟩⟩⟩, ()⟩ => (some ((y0_0, (y0_1, (y0_2, ()))), ())))
def N36 : A36 → Option B36 := M36 N93 N94 (itrs R36_0)
def C36 : Ctr τ := ⟨i36, o36, N36, 0⟩
theorem g36 : GOK κ Try.prog (G36 N93 N94) := (gok_cons s93 (keeps0 rfl) (gok_cons s94 (keeps0 rfl) gok_nil))
theorem le36_0 : ∀ (c93 : A93 → Option B93) (c94 : A94 → Option B94) x, Q36_0 c93 c94 x = run Try.prog κ (G36 c93 c94) (tabL []) 0 (loopAt Try.f36 0) (li36_0.build x) (rnd li36_0 lo36_0) := fun c93 c94 x => by kernel_rfl
theorem linner36_0 : ∀ Z : Zn, Z.rl = [0] → 23 ≤ Z.nt → ∀ p ∈ loops 0 (loopAt Try.f36 0), ∀ C, (tabL []) p.1 = some C → LoopOK κ Try.prog Z p.2 C := fun Z h n => fun p hp => (by cases (show p ∈ ([] : List (Nat × Code)) from hp))
theorem lk36_0 : ∀ Z : Zn, Z.rl = [0] → 23 ≤ Z.nt → LoopOK κ Try.prog Z (loopAt Try.f36 0) L36_0 := fun Z h n => loop_ok (S := (tabL [])) R36_0 (by kernel_rfl) g36 (by rw [h]; exact dsts_mono n _ (by kernel_rfl)) (linner36_0 Z h n) (by kernel_rfl) (by kernel_rfl) (le36_0 N93 N94) itrs_rounds
theorem lall36 : ∀ Z : Zn, Z.rl = C36.o.keeps → Try.f36.ntmps ≤ Z.nt → ∀ p ∈ loops 0 (bodyOf Try.f36), ∀ C, (tabL [(0, L36_0)]) p.1 = some C → LoopOK κ Try.prog Z p.2 C := fun Z h n => all_loops [(0, loopAt Try.f36 0)] (by kernel_rfl) (all_cons (fun C hC => (Option.some.inj hC : L36_0 = C) ▸ lk36_0 Z h n) (fun _ h => by cases h))
theorem e36 : ∀ (c93 : A93 → Option B93) (c94 : A94 → Option B94) (l36_0 : LA36_0 → Option LB36_0) x, M36 c93 c94 l36_0 x = fnE Try.prog κ (G36 c93 c94) (tabL [(0, (⟨li36_0, l36_0, lo36_0⟩ : Lc τ))]) Try.f36 i36 o36 x := fun c93 c94 l36_0 x => by kernel_rfl
theorem s36 : Sound κ Try.prog C36 36 := fn_sound (S := (tabL [(0, L36_0)])) (F := Try.f36) (code := bodyOf Try.f36) (by kernel_rfl) g36 Try.func36 (by kernel_rfl) (by kernel_rfl) (by kernel_rfl) lall36 (by kernel_rfl) (by kernel_rfl) fun x y h => (e36 N93 N94 (itrs R36_0) x).symm.trans h
end Go.Proofs.Ytkbhbiceojmnaaa.E
namespace Go.Proofs.Ytkbhbiceojmnaaa.E
open Go
set_option linter.unusedVariables false
set_option maxRecDepth 100000
abbrev A96 : Type := ((List T45 × (Int × (List T3 × Unit))) × T45 × Unit)
abbrev B96 : Type := ((List T45 × (Int × (List T3 × Unit))) × Unit)
def i96 : Fr τ A96 := (.ptr 0 none 56 (.own 45 (.val (.int .i64) (.own 3 .nil))) (.val 1 (.box 45 45) .nil))
def o96 : Fr τ B96 := (.ptr 0 none 56 (.own 45 (.val (.int .i64) (.own 3 .nil))) .nil)
def G96 : Nat → Option (Ct τ) := tabG []
def M96 : A96 → Option B96 := fun ⟨⟨q'_0, ⟨q'_1, ⟨q'_2, ()⟩⟩⟩, ⟨⟨x'_0, ⟨x'_1, x'_2⟩⟩, ()⟩⟩ => ((bif decide ((List.length q'_0 + 1) * 24 ≤ 210000000000000) then some () else none).bind fun () => (some ((q'_0 ++ [(x'_0, x'_1, x'_2)], (q'_1, (q'_2, ()))), ())))
def N96 : A96 → Option B96 := M96
def C96 : Ctr τ := ⟨i96, o96, N96, 0⟩
theorem g96 : GOK κ Try.prog (G96) := gok_nil
theorem lall96 : ∀ Z : Zn, Z.rl = C96.o.keeps → Try.f96.ntmps ≤ Z.nt → ∀ p ∈ loops 0 (bodyOf Try.f96), ∀ C, (tabL []) p.1 = some C → LoopOK κ Try.prog Z p.2 C := fun Z h n => fun p hp => (by cases (show p ∈ ([] : List (Nat × Code)) from hp))
theorem e96 : ∀ x, M96 x = fnE Try.prog κ (G96) (tabL []) Try.f96 i96 o96 x := fun x => by kernel_rfl
theorem s96 : Sound κ Try.prog C96 96 := fn_sound (S := (tabL [])) (F := Try.f96) (code := bodyOf Try.f96) (by kernel_rfl) g96 Try.func96 (by kernel_rfl) (by kernel_rfl) (by kernel_rfl) lall96 (by kernel_rfl) (by kernel_rfl) fun x y h => (e96 x).symm.trans h
end Go.Proofs.Ytkbhbiceojmnaaa.E
namespace Go.Proofs.Ytkbhbiceojmnaaa.E
open Go
set_option linter.unusedVariables false
set_option maxRecDepth 100000
abbrev A26 : Type := ((List T45 × (Int × (List T3 × Unit))) × T45 × Unit)
abbrev B26 : Type := ((List T45 × (Int × (List T3 × Unit))) × Unit)
def i26 : Fr τ A26 := (.ptr 0 (some 63) 56 (.own 45 (.val (.int .i64) (.own 3 .nil))) (.val 1 (.box 45 45) .nil))
def o26 : Fr τ B26 := (.ptr 0 (some 63) 56 (.own 45 (.val (.int .i64) (.own 3 .nil))) .nil)
def G26 (c36 : A36 → Option B36) (c96 : A96 → Option B96) (c32 : A32 → Option B32) : Nat → Option (Ct τ) := tabG [(36, (⟨i36, o36, c36, 0⟩ : Ctr τ)), (96, (⟨i96, o96, c96, 0⟩ : Ctr τ)), (32, (⟨i32, o32, c32, 0⟩ : Ctr τ))]
def M26 (c36 : A36 → Option B36) (c96 : A96 → Option B96) (c32 : A32 → Option B32) : A26 → Option B26 := fun ⟨⟨h'_0, ⟨h'_1, ⟨h'_2, ()⟩⟩⟩, ⟨⟨x'_0, ⟨x'_1, x'_2⟩⟩, ()⟩⟩ => ((c96 ((h'_0, (h'_1, (h'_2, ()))), ((x'_0, (x'_1, x'_2)), ()))).bind fun ⟨⟨y0_0, ⟨y0_1, ⟨y0_2, ()⟩⟩⟩, ()⟩ => ((c32 (y0_0, ())).bind fun ⟨y1_0, ⟨y1_1, ()⟩⟩ => (let v0 : Int := y1_0 - 1; let v1 : Int := IntKind.wrap IntKind.i64 v0; (c36 ((y1_1, (y0_1, (y0_2, ()))), (v1, ()))).bind fun ⟨⟨y2_0, ⟨y2_1, ⟨y2_2, ()⟩⟩⟩, ()⟩ => (some ((y2_0, (y2_1, (y2_2, ()))), ())))))
def N26 : A26 → Option B26 := M26 N36 N96 N32
def C26 : Ctr τ := ⟨i26, o26, N26, 0⟩
theorem g26 : GOK κ Try.prog (G26 N36 N96 N32) := (gok_cons s36 (keeps0 rfl) (gok_cons s96 (keeps0 rfl) (gok_cons s32 (keeps0 rfl) gok_nil)))
theorem lall26 : ∀ Z : Zn, Z.rl = C26.o.keeps → Try.f26.ntmps ≤ Z.nt → ∀ p ∈ loops 0 (bodyOf Try.f26), ∀ C, (tabL []) p.1 = some C → LoopOK κ Try.prog Z p.2 C := fun Z h n => fun p hp => (by cases (show p ∈ ([] : List (Nat × Code)) from hp))
theorem e26 : ∀ (c36 : A36 → Option B36) (c96 : A96 → Option B96) (c32 : A32 → Option B32) x, M26 c36 c96 c32 x = fnE Try.prog κ (G26 c36 c96 c32) (tabL []) Try.f26 i26 o26 x := fun c36 c96 c32 x => by kernel_rfl
theorem s26 : Sound κ Try.prog C26 26 := fn_sound (S := (tabL [])) (F := Try.f26) (code := bodyOf Try.f26) (by kernel_rfl) g26 Try.func26 (by kernel_rfl) (by kernel_rfl) (by kernel_rfl) lall26 (by kernel_rfl) (by kernel_rfl) fun x y h => (e26 N36 N96 N32 x).symm.trans h
end Go.Proofs.Ytkbhbiceojmnaaa.E
namespace Go.Proofs.Ytkbhbiceojmnaaa.E
open Go
set_option linter.unusedVariables false
set_option maxRecDepth 100000
abbrev A35 : Type := ((List T3) × Int × Unit)
abbrev B35 : Type := (Int × Unit)
def i35 : Fr τ A35 := (.val 0 (.sl 3) (.val 1 (.int .i64) .nil))
def o35 : Fr τ B35 := (.val 1000 (.int .i64) .nil)
def G35 : Nat → Option (Ct τ) := tabG []
abbrev LA35_0 : Type := ((List T3) × Int × Int × Int × Unit)
abbrev LB35_0 : Type := (Unit) ⊕ (Int × Unit)
def li35_0 : Fr τ LA35_0 := (.val 0 (.sl 3) (.val 1 (.int .i64) (.val 7 (.int .i64) (.val 8 (.int .i64) .nil))))
def lo35_0 : Ot τ LB35_0 := .alt (.exit 0) .nil (.one .ret (.val 4 (.int .i64) .nil))
def Q35_0 : LA35_0 → Option (LA35_0 ⊕ LB35_0) := fun ⟨s', ⟨v', ⟨t7', ⟨t8', ()⟩⟩⟩⟩ => (bif decide (t8' < t7') then ((bif decide (0 ≤ t8') then s'[Int.toNat t8']? else none).bind fun y1 => (bif v' == y1 then (some (.inr (.inr (t8', ())))) else (let v0 : Int := t8' + 1; let v1 : Int := IntKind.wrap IntKind.i64 v0; some (.inl (s', (v', (t7', (v1, ())))))))) else (some (.inr (.inl ()))))
def R35_0 : LA35_0 → Option (LA35_0 ⊕ LB35_0) := Q35_0
def L35_0 : Lc τ := ⟨li35_0, itrs R35_0, lo35_0⟩
def M35 (l35_0 : LA35_0 → Option LB35_0) : A35 → Option B35 := fun ⟨s', ⟨v', ()⟩⟩ => (let v0 : Int := ↑(List.length s'); (l35_0 (s', (v', (v0, (0, ()))))).bind fun y0 => (match y0 with | .inl () => (some (-1, ())) | .inr ⟨y1, ()⟩ => (some (y1, ()))))
def N35 : A35 → Option B35 := M35 (itrs R35_0)
def C35 : Ctr τ := ⟨i35, o35, N35, 0⟩
theorem g35 : GOK κ Try.prog (G35) := gok_nil
theorem le35_0 : ∀ x, Q35_0 x = run Try.prog κ (G35) (tabL []) 0 (loopAt Try.f35 0) (li35_0.build x) (rnd li35_0 lo35_0) := fun x => by kernel_rfl
theorem linner35_0 : ∀ Z : Zn, Z.rl = [] → 19 ≤ Z.nt → ∀ p ∈ loops 0 (loopAt Try.f35 0), ∀ C, (tabL []) p.1 = some C → LoopOK κ Try.prog Z p.2 C := fun Z h n => fun p hp => (by cases (show p ∈ ([] : List (Nat × Code)) from hp))
theorem lk35_0 : ∀ Z : Zn, Z.rl = [] → 19 ≤ Z.nt → LoopOK κ Try.prog Z (loopAt Try.f35 0) L35_0 := fun Z h n => loop_ok (S := (tabL [])) R35_0 (by kernel_rfl) g35 (by rw [h]; exact dsts_mono n _ (by kernel_rfl)) (linner35_0 Z h n) (by kernel_rfl) (by kernel_rfl) (le35_0) itrs_rounds
theorem lall35 : ∀ Z : Zn, Z.rl = C35.o.keeps → Try.f35.ntmps ≤ Z.nt → ∀ p ∈ loops 0 (bodyOf Try.f35), ∀ C, (tabL [(0, L35_0)]) p.1 = some C → LoopOK κ Try.prog Z p.2 C := fun Z h n => all_loops [(0, loopAt Try.f35 0)] (by kernel_rfl) (all_cons (fun C hC => (Option.some.inj hC : L35_0 = C) ▸ lk35_0 Z h n) (fun _ h => by cases h))
theorem e35 : ∀ (l35_0 : LA35_0 → Option LB35_0) x, M35 l35_0 x = fnE Try.prog κ (G35) (tabL [(0, (⟨li35_0, l35_0, lo35_0⟩ : Lc τ))]) Try.f35 i35 o35 x := fun l35_0 x => by kernel_rfl
theorem s35 : Sound κ Try.prog C35 35 := fn_sound (S := (tabL [(0, L35_0)])) (F := Try.f35) (code := bodyOf Try.f35) (by kernel_rfl) g35 Try.func35 (by kernel_rfl) (by kernel_rfl) (by kernel_rfl) lall35 (by kernel_rfl) (by kernel_rfl) fun x y h => (e35 (itrs R35_0) x).symm.trans h
end Go.Proofs.Ytkbhbiceojmnaaa.E
namespace Go.Proofs.Ytkbhbiceojmnaaa.E
open Go
set_option linter.unusedVariables false
set_option maxRecDepth 100000
abbrev A25 : Type := ((List T3) × Int × Unit)
abbrev B25 : Type := (Bool × Unit)
def i25 : Fr τ A25 := (.val 0 (.sl 3) (.val 1 (.int .i64) .nil))
def o25 : Fr τ B25 := (.val 1000 .bool .nil)
def G25 (c35 : A35 → Option B35) : Nat → Option (Ct τ) := tabG [(35, (⟨i35, o35, c35, 0⟩ : Ctr τ))]
def M25 (c35 : A35 → Option B35) : A25 → Option B25 := fun ⟨s', ⟨v', ()⟩⟩ => ((c35 (s', (v', ()))).bind fun ⟨y0, ()⟩ => (some (decide (y0 ≥ 0), ())))
def N25 : A25 → Option B25 := M25 N35
def C25 : Ctr τ := ⟨i25, o25, N25, 0⟩
theorem g25 : GOK κ Try.prog (G25 N35) := (gok_cons s35 (keeps0 rfl) gok_nil)
theorem lall25 : ∀ Z : Zn, Z.rl = C25.o.keeps → Try.f25.ntmps ≤ Z.nt → ∀ p ∈ loops 0 (bodyOf Try.f25), ∀ C, (tabL []) p.1 = some C → LoopOK κ Try.prog Z p.2 C := fun Z h n => fun p hp => (by cases (show p ∈ ([] : List (Nat × Code)) from hp))
theorem e25 : ∀ (c35 : A35 → Option B35) x, M25 c35 x = fnE Try.prog κ (G25 c35) (tabL []) Try.f25 i25 o25 x := fun c35 x => by kernel_rfl
theorem s25 : Sound κ Try.prog C25 25 := fn_sound (S := (tabL [])) (F := Try.f25) (code := bodyOf Try.f25) (by kernel_rfl) g25 Try.func25 (by kernel_rfl) (by kernel_rfl) (by kernel_rfl) lall25 (by kernel_rfl) (by kernel_rfl) fun x y h => (e25 N35 x).symm.trans h
end Go.Proofs.Ytkbhbiceojmnaaa.E
namespace Go.Proofs.Ytkbhbiceojmnaaa.E
open Go
set_option linter.unusedVariables false
set_option maxRecDepth 100000
abbrev A29 : Type := ((List T45) × Unit)
abbrev B29 : Type := ((List T45) × Unit)
def i29 : Fr τ A29 := (.val 0 (.sl 45) .nil)
def o29 : Fr τ B29 := (.own 1000 45 .nil)
def G29 : Nat → Option (Ct τ) := tabG []
def M29 : A29 → Option B29 := fun ⟨s', ()⟩ => ((bif !List.isEmpty s' then some () else none).bind fun () => ((bif decide ((0 + List.length s') * 24 ≤ 210000000000000) then some () else none).bind fun () => (some ([] ++ s', ()))))
def N29 : A29 → Option B29 := M29
def C29 : Ctr τ := ⟨i29, o29, N29, 0⟩
theorem g29 : GOK κ Try.prog (G29) := gok_nil
theorem lall29 : ∀ Z : Zn, Z.rl = C29.o.keeps → Try.f29.ntmps ≤ Z.nt → ∀ p ∈ loops 0 (bodyOf Try.f29), ∀ C, (tabL []) p.1 = some C → LoopOK κ Try.prog Z p.2 C := fun Z h n => fun p hp => (by cases (show p ∈ ([] : List (Nat × Code)) from hp))
theorem e29 : ∀ x, M29 x = fnE Try.prog κ (G29) (tabL []) Try.f29 i29 o29 x := fun x => by kernel_rfl
theorem s29 : Sound κ Try.prog C29 29 := fn_sound (S := (tabL [])) (F := Try.f29) (code := bodyOf Try.f29) (by kernel_rfl) g29 Try.func29 (by kernel_rfl) (by kernel_rfl) (by kernel_rfl) lall29 (by kernel_rfl) (by kernel_rfl) fun x y h => (e29 x).symm.trans h
end Go.Proofs.Ytkbhbiceojmnaaa.E
namespace Go.Proofs.Ytkbhbiceojmnaaa.E
open Go
set_option linter.unusedVariables false
set_option maxRecDepth 100000
abbrev A15 : Type := ((List T45) × (List T45) × Unit)
abbrev B15 : Type := (Bool × Unit)
def i15 : Fr τ A15 := (.val 0 (.sl 45) (.val 1 (.sl 45) .nil))
def o15 : Fr τ B15 := (.val 1000 .bool .nil)
def G15 : Nat → Option (Ct τ) := tabG []
abbrev LA15_0 : Type := ((List T45) × (List T45) × Int × Unit)
abbrev LB15_0 : Type := (Unit) ⊕ (Bool × Unit)
def li15_0 : Fr τ LA15_0 := (.val 0 (.sl 45) (.val 1 (.sl 45) (.val 5 (.int .i64) .nil)))
def lo15_0 : Ot τ LB15_0 := .alt (.exit 0) .nil (.one .ret (.val 4 .bool .nil))
def Q15_0 : LA15_0 → Option (LA15_0 ⊕ LB15_0) := fun ⟨a', ⟨b', ⟨i', ()⟩⟩⟩ => (let v0 : Int := ↑(List.length a'); bif decide (i' < v0) then ((bif decide (0 ≤ i') then a'[Int.toNat i']? else none).bind fun ⟨y1_0, ⟨y1_1, y1_2⟩⟩ => ((bif decide (0 ≤ i') then b'[Int.toNat i']? else none).bind fun ⟨y2_0, ⟨y2_1, y2_2⟩⟩ => (bif !(y1_0 == y2_0 && (y1_1 == y2_1 && y1_2 == y2_2)) then (some (.inr (.inr (false, ())))) else (let v1 : Int := i' + 1; let v2 : Int := IntKind.wrap IntKind.i64 v1; some (.inl (a', (b', (v2, ())))))))) else (some (.inr (.inl ()))))
def R15_0 : LA15_0 → Option (LA15_0 ⊕ LB15_0) := Q15_0
def L15_0 : Lc τ := ⟨li15_0, itrs R15_0, lo15_0⟩
def M15 (l15_0 : LA15_0 → Option LB15_0) : A15 → Option B15 := fun ⟨a', ⟨b', ()⟩⟩ => (let v0 : Int := ↑(List.length a'); let v1 : Int := ↑(List.length b'); bif v0 != v1 then (some (false, ())) else ((l15_0 (a', (b', (0, ())))).bind fun y1 => (match y1 with | .inl () => (some (true, ())) | .inr ⟨y2, ()⟩ => (some (y2, ())))))
def N15 : A15 → Option B15 := M15 (itrs R15_0)
def C15 : Ctr τ := ⟨i15, o15, N15, 0⟩
theorem g15 : GOK κ Try.prog (G15) := gok_nil
theorem le15_0 : ∀ x, Q15_0 x = run Try.prog κ (G15) (tabL []) 0 (loopAt Try.f15 0) (li15_0.build x) (rnd li15_0 lo15_0) := fun x => by kernel_rfl
theorem linner15_0 : ∀ Z : Zn, Z.rl = [] → 26 ≤ Z.nt → ∀ p ∈ loops 0 (loopAt Try.f15 0), ∀ C, (tabL []) p.1 = some C → LoopOK κ Try.prog Z p.2 C := fun Z h n => fun p hp => (by cases (show p ∈ ([] : List (Nat × Code)) from hp))
theorem lk15_0 : ∀ Z : Zn, Z.rl = [] → 26 ≤ Z.nt → LoopOK κ Try.prog Z (loopAt Try.f15 0) L15_0 := fun Z h n => loop_ok (S := (tabL [])) R15_0 (by kernel_rfl) g15 (by rw [h]; exact dsts_mono n _ (by kernel_rfl)) (linner15_0 Z h n) (by kernel_rfl) (by kernel_rfl) (le15_0) itrs_rounds
theorem lall15 : ∀ Z : Zn, Z.rl = C15.o.keeps → Try.f15.ntmps ≤ Z.nt → ∀ p ∈ loops 0 (bodyOf Try.f15), ∀ C, (tabL [(0, L15_0)]) p.1 = some C → LoopOK κ Try.prog Z p.2 C := fun Z h n => all_loops [(0, loopAt Try.f15 0)] (by kernel_rfl) (all_cons (fun C hC => (Option.some.inj hC : L15_0 = C) ▸ lk15_0 Z h n) (fun _ h => by cases h))
theorem e15 : ∀ (l15_0 : LA15_0 → Option LB15_0) x, M15 l15_0 x = fnE Try.prog κ (G15) (tabL [(0, (⟨li15_0, l15_0, lo15_0⟩ : Lc τ))]) Try.f15 i15 o15 x := fun l15_0 x => by kernel_rfl
theorem s15 : Sound κ Try.prog C15 15 := fn_sound (S := (tabL [(0, L15_0)])) (F := Try.f15) (code := bodyOf Try.f15) (by kernel_rfl) g15 Try.func15 (by kernel_rfl) (by kernel_rfl) (by kernel_rfl) lall15 (by kernel_rfl) (by kernel_rfl) fun x y h => (e15 (itrs R15_0) x).symm.trans h
end Go.Proofs.Ytkbhbiceojmnaaa.E
namespace Go.Proofs.Ytkbhbiceojmnaaa.E
open Go
set_option linter.unusedVariables false
set_option maxRecDepth 100000
abbrev A18 : Type := ((List T9) × (List T9) × Unit)
abbrev B18 : Type := (Bool × Unit)
def i18 : Fr τ A18 := (.val 0 (.sl 9) (.val 1 (.sl 9) .nil))
def o18 : Fr τ B18 := (.val 1000 .bool .nil)
def G18 : Nat → Option (Ct τ) := tabG []
abbrev LA18_0 : Type := ((List T9) × (List T9) × Int × Unit)
abbrev LB18_0 : Type := (Unit) ⊕ (Bool × Unit)
def li18_0 : Fr τ LA18_0 := (.val 0 (.sl 9) (.val 1 (.sl 9) (.val 5 (.int .i64) .nil)))
def lo18_0 : Ot τ LB18_0 := .alt (.exit 0) .nil (.one .ret (.val 4 .bool .nil))
def Q18_0 : LA18_0 → Option (LA18_0 ⊕ LB18_0) := fun ⟨a', ⟨b', ⟨i', ()⟩⟩⟩ => (let v0 : Int := ↑(List.length a'); bif decide (i' < v0) then ((bif decide (0 ≤ i') then a'[Int.toNat i']? else none).bind fun y1 => ((bif decide (0 ≤ i') then b'[Int.toNat i']? else none).bind fun y2 => (bif !ByteArray.toList y1 == ByteArray.toList y2 then (some (.inr (.inr (false, ())))) else (let v1 : Int := i' + 1; let v2 : Int := IntKind.wrap IntKind.i64 v1; some (.inl (a', (b', (v2, ())))))))) else (some (.inr (.inl ()))))
def R18_0 : LA18_0 → Option (LA18_0 ⊕ LB18_0) := Q18_0
def L18_0 : Lc τ := ⟨li18_0, itrs R18_0, lo18_0⟩
def M18 (l18_0 : LA18_0 → Option LB18_0) : A18 → Option B18 := fun ⟨a', ⟨b', ()⟩⟩ => (let v0 : Int := ↑(List.length a'); let v1 : Int := ↑(List.length b'); bif v0 != v1 then (some (false, ())) else ((l18_0 (a', (b', (0, ())))).bind fun y1 => (match y1 with | .inl () => (some (true, ())) | .inr ⟨y2, ()⟩ => (some (y2, ())))))
def N18 : A18 → Option B18 := M18 (itrs R18_0)
def C18 : Ctr τ := ⟨i18, o18, N18, 0⟩
theorem g18 : GOK κ Try.prog (G18) := gok_nil
theorem le18_0 : ∀ x, Q18_0 x = run Try.prog κ (G18) (tabL []) 0 (loopAt Try.f18 0) (li18_0.build x) (rnd li18_0 lo18_0) := fun x => by kernel_rfl
theorem linner18_0 : ∀ Z : Zn, Z.rl = [] → 26 ≤ Z.nt → ∀ p ∈ loops 0 (loopAt Try.f18 0), ∀ C, (tabL []) p.1 = some C → LoopOK κ Try.prog Z p.2 C := fun Z h n => fun p hp => (by cases (show p ∈ ([] : List (Nat × Code)) from hp))
theorem lk18_0 : ∀ Z : Zn, Z.rl = [] → 26 ≤ Z.nt → LoopOK κ Try.prog Z (loopAt Try.f18 0) L18_0 := fun Z h n => loop_ok (S := (tabL [])) R18_0 (by kernel_rfl) g18 (by rw [h]; exact dsts_mono n _ (by kernel_rfl)) (linner18_0 Z h n) (by kernel_rfl) (by kernel_rfl) (le18_0) itrs_rounds
theorem lall18 : ∀ Z : Zn, Z.rl = C18.o.keeps → Try.f18.ntmps ≤ Z.nt → ∀ p ∈ loops 0 (bodyOf Try.f18), ∀ C, (tabL [(0, L18_0)]) p.1 = some C → LoopOK κ Try.prog Z p.2 C := fun Z h n => all_loops [(0, loopAt Try.f18 0)] (by kernel_rfl) (all_cons (fun C hC => (Option.some.inj hC : L18_0 = C) ▸ lk18_0 Z h n) (fun _ h => by cases h))
theorem e18 : ∀ (l18_0 : LA18_0 → Option LB18_0) x, M18 l18_0 x = fnE Try.prog κ (G18) (tabL [(0, (⟨li18_0, l18_0, lo18_0⟩ : Lc τ))]) Try.f18 i18 o18 x := fun l18_0 x => by kernel_rfl
theorem s18 : Sound κ Try.prog C18 18 := fn_sound (S := (tabL [(0, L18_0)])) (F := Try.f18) (code := bodyOf Try.f18) (by kernel_rfl) g18 Try.func18 (by kernel_rfl) (by kernel_rfl) (by kernel_rfl) lall18 (by kernel_rfl) (by kernel_rfl) fun x y h => (e18 (itrs R18_0) x).symm.trans h
end Go.Proofs.Ytkbhbiceojmnaaa.E
/-
  A ledger's account, looked up: of. No condition.
-/
namespace Go.Proofs
open Go.Shelf Go.RowKit Go.Lib Go.Sort
theorem u48 : Try.prog.underlying 48 = some (.map 9 51) := by kernel_rfl
theorem u9 : Try.prog.underlying 9 = some .string := by kernel_rfl
theorem u51 : Try.prog.underlying 51 = some (.pointer 56) := by kernel_rfl
theorem lookup_hit {w : World} {m i : Nat} {es : List MapEntry} {clock : Nat} {k : ByteArray} {v : Value} (hm : w.heap[m]? = some (.map es.toArray clock)) (hf : Instr.findNow .string (.string k) es 0 = some (some (i, v))) :
    (Instr.lookup 48 (.map (some m)) (.string k) false).run Try.prog w = .ok v w := by
  have h1 := MapKept.run_findKey (P := Try.prog) (w := w) (l := es) u9 hf
  have h2 := MapKept.run_checkKey (P := Try.prog) (w := w) (k := .string k) u9 trivial es.toArray.isEmpty 9999
  have h0 := MapKept.run_getObj_map (P := Try.prog) hm
  unfold Instr.lookup
  simp only [Sem.run_bind, run_underlying u48, Result.andThen, h0, Sem.run_pure, h2, h1]
  rfl
theorem zv51 (w : World) : (zeroValue 51).run Try.prog w = .ok (.pointer none) w := by
  have h : (Try.prog.info? 51).map (·.zero) = some (some (.pointer none)) := by kernel_rfl
  obtain ⟨i, hi, hz⟩ := Option.map_eq_some_iff.1 h
  simp [zeroValue, typeInfo, hi, hz]
theorem lookup_miss {w : World} {m : Nat} {es : List MapEntry} {clock : Nat} {k : ByteArray} (hm : w.heap[m]? = some (.map es.toArray clock)) (hf : Instr.findNow .string (.string k) es 0 = some none) :
    (Instr.lookup 48 (.map (some m)) (.string k) false).run Try.prog w = .ok (.pointer none) w := by
  have h1 := MapKept.run_findKey (P := Try.prog) (w := w) (l := es) u9 hf
  have h2 := MapKept.run_checkKey (P := Try.prog) (w := w) (k := .string k) u9 trivial es.toArray.isEmpty 9999
  have h0 := MapKept.run_getObj_map (P := Try.prog) hm
  unfold Instr.lookup
  simp only [Sem.run_bind, run_underlying u48, Result.andThen, h0, Sem.run_pure, h2, h1, zv51]
  rfl
theorem of_calls {m p : Nat} {posts v : Value} {es : Array MapEntry} {clock : Nat} {k : ByteArray} {w : World} (hp : w.heap[p]? = some (.cells #[.map (some m), posts] 50 (0, 0))) (_hm : w.heap[m]? = some (.map es clock))
    (hv : (Instr.lookup 48 (.map (some m)) (.string k) false).run Try.prog w = .ok v w) : Calls Try.prog 21 #[.pointer (some ⟨p, 0, none⟩), .string k] w fun e w' => e = .returned v ∧ w' = w := by
  have hc : w.cell? ⟨p, 0, none⟩ = some (.map (some m)) := by
    unfold World.cell?
    simp [hp]
  go_enter Try.func21, Try.ntmps21
  go_wp2
  go_ret
  exact ⟨rfl, rfl⟩
end Go.Proofs
namespace Go.Proofs.Ytkbhbiceojmnaaa.E
open Go
set_option linter.unusedVariables false
theorem ents_find {w : World} {k : ByteArray} : ∀ {es : List MapEntry} {M : MapL} {fps : List Nat} (i : Nat), Ents w es M fps → k ∉ M.map Prod.fst → Instr.findNow .string (.string k) es i = some none := by
  intro es M fps i h
  induction h generalizing i with
  | nil => intro _; rfl
  | @cons e es k' a M p fp fps h1 h2 h3 _ ih =>
    intro hk
    simp only [List.map_cons, List.mem_cons, not_or] at hk
    have hb : (k == k') = false := by
      rw [← Bool.not_eq_true]
      exact fun h => hk.1 ((MapKept.bytes_beq _ _).1 h)
    simp only [Instr.findNow, h1, Instr.sameNow, hb]
    exact ih (i + 1) hk.2
theorem findNow_app {d : TypeDesc} {k : Value} : ∀ {es es2 : List MapEntry} (i : Nat), Instr.findNow d k es i = some none → Instr.findNow d k (es ++ es2) i = Instr.findNow d k es2 (i + es.length)
  | [], es2, i, _ => by simp
  | e :: es, es2, i, h => by
    simp only [Instr.findNow, List.cons_append] at h ⊢
    cases e1 : Instr.sameNow d k e.key with
    | none => rw [e1] at h; cases h
    | some b =>
      rw [e1] at h
      cases b with
      | true => cases h
      | false =>
        simp only at h ⊢
        rw [findNow_app (i + 1) h, List.length_cons, Nat.add_right_comm, Nat.add_assoc]
theorem strInj {x y : ByteArray} (h : (ByteArray.toList x == ByteArray.toList y) = true) : x = y := by
  have h : ByteArray.toList x = ByteArray.toList y := by simpa using h
  rw [ByteArray.toList_eq x, ByteArray.toList_eq y] at h
  obtain ⟨⟨x⟩⟩ := x
  obtain ⟨⟨y⟩⟩ := y
  exact congrArg (fun l : List UInt8 => (⟨⟨l⟩⟩ : ByteArray)) h
theorem gok_k0 {Γ : Nat → Option (Ct τ)} (h : GOK κ Try.prog Γ) : GOK κ Try.prog (tabK [] Γ) := fun f c e => h f c e
theorem rowK_sl {g : Gh} {w : World} {e sz : Nat} {v : Value} {l : List (τ e)} {f : τ e → List Value} (hs : (κ e).sz = sz) (hf : ∀ a, KD κ g.kp w (κ e) a (f a)) (h : RowK g w sz v (l.map f)) : KD κ g.kp w (.sl e) l [v] := by
  obtain ⟨A, c, rfl, h2, h3⟩ := h
  rw [List.length_map] at h2 ⊢
  refine .sl (fun j => match l[j]? with | some a => f a | none => []) h2 (fun j hj => ?_) (fun j a hj => ?_)
  · have e : (l.map f)[j]? = some (f l[j]) := by rw [List.getElem?_map, List.getElem?_eq_getElem hj]; rfl
    obtain ⟨ad, k1, k2, k3⟩ := h3 j _ e
    refine ⟨ad, k1, k2, fun i u hu => ?_⟩
    rw [List.getElem?_eq_getElem hj] at hu
    rw [hs]
    exact k3 i u hu
  · simp only [hj]
    exact hf a
theorem kdO (kp : Nat → Prop) (w : World) (o : OpnR) : KD κ kp w (κ 45) o (rawO o) :=
  show KD κ kp w (K.pair (K.int .i64) (K.pair (K.int .i64) (K.int .i64)) : K τ OpnR) o ([.int .i64 o.1] ++ ([.int .i64 o.2.1] ++ [.int .i64 o.2.2])) from .pair (.int _ _) (.pair (.int _ _) (.int _ _))
theorem kdI (kp : Nat → Prop) (w : World) (n : Int) : KD κ kp w (κ 3) n (rawI n) :=
  show KD κ kp w (K.int .i64 : K τ Int) n [.int .i64 n] from .int _ _
theorem kdA {g : Gh} {w : World} {a : Acc} {s1 s2 : Value} (h1 : RowK g w 3 s1 (a.1.map rawO)) (h2 : RowK g w 1 s2 (a.2.2.map rawI)) : KD κ g.kp w (κ 902) a [s1, .int .i64 a.2.1, s2] :=
  show KD κ g.kp w (K.pair (K.sl 45) (K.pair (K.int .i64) (K.sl 3)) : K τ Acc) a ([s1] ++ ([.int .i64 a.2.1] ++ [s2])) from
    .pair (rowK_sl (e := 45) (l := a.1) (f := rawO) (by kernel_rfl) (fun o => kdO _ _ o) h1) (.pair (.int _ _) (rowK_sl (e := 3) (l := a.2.2) (f := rawI) (by kernel_rfl) (fun o => kdI _ _ o) h2))
/-- What of answers, by what is told of its receiver. -/
def ofH (id : Nat) (B : Nat → Option (Blk τ)) (R : Nat → Option (Row τ)) : List (SV τ) → Option (Eff τ)
  | [.c (.lf (.ptr d o)), .c (.lf (.v (.string k)))] =>
    match B d with
    | some (.cells T [.mh m, .v x]) =>
      bif Nat.beq o 0 && Nat.beq T 50 then
        match B m with
        | some (.ob e x ks) => if h : e = 901 then
            (let y : OpL := castE h x
            some ⟨bif ByteArray.toList y.2.2.1 == ByteArray.toList k then some () else none, fun _ => ⟨match y.2.2.2 with | some l => lf (.ptr l 0) | none => vl (.pointer none), [], []⟩⟩) else none
        | _ => none
      else none
    | some (.ob e x ks) => bif Nat.beq o 0 then (if h : e = 903 then
          (let y : ByteArray × Acc := castE h x
          some ⟨bif ByteArray.toList y.1 == ByteArray.toList k then some () else none, fun _ => ⟨lf (.sp 902 (show τ 902 from y.2) 0), [], []⟩⟩) else if h : e = 904 then
          (let y : ByteArray := castE h x
          some ⟨bif ByteArray.toList y == ByteArray.toList k then some () else none, fun _ => ⟨vl (.pointer none), [], []⟩⟩) else none) else none
    | _ => none
  | _ => none
def hkOf : Hook τ := ⟨ofH, by
  intro id B R args E y h
  unfold ofH at h
  split at h
  · split at h
    · obtain ⟨_, h⟩ := bif_els1 h
      split at h
      · split at h
        · injection h with h
          subst h
          exact ⟨(fun p hp => nomatch hp), (fun p hp => nomatch hp)⟩
        · cases h
      · cases h
    · obtain ⟨_, h⟩ := bif_els1 h
      split at h
      · injection h with h
        subst h
        exact ⟨(fun p hp => nomatch hp), (fun p hp => nomatch hp)⟩
      · split at h
        · injection h with h
          subst h
          exact ⟨(fun p hp => nomatch hp), (fun p hp => nomatch hp)⟩
        · cases h
    · cases h
  · cases h⟩
theorem hkOf_ok : HookOK κ Try.prog hkOf 21 := by
  intro Z fr g s a w o Q id B R args vals E y h hd hB hR hid ha hrun hE hy
  have hrun : (execOp a.eval o).run Try.prog w = (callFunc 21 vals.toArray).run Try.prog w := by
    unfold hookRun at hrun
    rw [if_pos (by decide)] at hrun
    exact hrun
  have fin : ∀ v x, Calls Try.prog 21 vals.toArray w (fun e w' => e = .returned v ∧ w' = w) → denS κ g w x v → o.wp Try.prog a w (fun a' w' => ∃ g', Rep κ Z (Nx fr id) g' (s.apply o.dst ⟨x, [], []⟩) a' w') Q := by
    intro v x hc hx
    refine wp_call (Rp := fun v' w' => v' = v ∧ w' = w) hrun ?_ ?_
    · unfold Doc
      rw [run_enter Try.func21 (by kernel_rfl) (by kernel_rfl : Try.f21.body = some (bodyOf Try.f21))]
      exact hc.mono fun e w' ⟨h1, h2⟩ => ⟨v, h1, rfl, h2⟩
    · rintro v' w' ⟨rfl, rfl⟩
      exact ⟨g, rep_step h (Chg.refl g _ h.j.free (fun _ => False) (fun _ => False)) hx hd (fun d B e => .inl ⟨e, not_false⟩) (fun d R e => .inl ⟨e, not_false⟩) (Nx.free h id)⟩
  have hE : ofH id B R args = some E := hE
  unfold ofH at hE
  split at hE
  · rename_i d q k hq0
    cases ha with
    | cons a1 ha =>
    cases ha with
    | cons a2 ha =>
    cases ha
    obtain ⟨p, hp, rfl⟩ := a1
    obtain rfl := a2
    split at hE
    · rename_i T m x hb
      obtain ⟨hc, hE⟩ := bif_els1 hE
      simp only [Bool.and_eq_true] at hc
      obtain rfl := beq_eq hc.1
      obtain rfl := beq_eq hc.2
      split at hE
      · rename_i e z ks hm
        split at hE
        · rename_i he
          subst he
          injection hE with hE
          subst hE
          have hy' : (bif ByteArray.toList (z : OpL).2.2.1 == ByteArray.toList k then some () else none) = some _ := hy
          obtain ⟨hk, _⟩ := bif_els hy'
          · obtain rfl := strInj hk
            obtain ⟨p', vs, j1, j2, j3, j4⟩ := h.m.blk _ _ (hB _ _ hb)
            rw [hp] at j1
            injection j1 with j1
            subst j1
            cases j4 with
            | cons b1 j4 =>
            cases j4 with
            | cons b2 j4 =>
            cases j4
            obtain ⟨⟨pm, hpm, rfl⟩, _⟩ := b1
            obtain ⟨hL, _⟩ := h.m.blk _ _ (hB _ _ hm)
            have hL : LdO z g w m := hL
            obtain ⟨m', es1, es2, clock, fps1, fps2, k1, k2, k3, k4, k5, k6, k7, k8⟩ := hL
            rw [hpm] at k1
            injection k1 with k1
            subst k1
            simp only [List.map_append, List.mem_append, not_or] at k7
            split at k8
            · rename_i e
              have hf : Instr.findNow .string (.string (z : OpL).2.2.1) (es1 ++ es2) 0 = some none := by
                rw [findNow_app 0 (ents_find 0 k2 k7.1)]
                exact ents_find _ k3 k7.2
              refine fin (.pointer none) _ (of_calls j3 k8.1 (lookup_miss k8.1 hf)) ?_
              show denS κ g w (match (z : OpL).2.2.2 with | some l => lf (.ptr l 0) | none => vl (.pointer none)) _
              rw [e]
              exact rfl
            · rename_i l e
              obtain ⟨en, pk, i1, i2, i3, i4, i5⟩ := k8
              have hf : Instr.findNow .string (.string (z : OpL).2.2.1) (es1 ++ en :: es2) 0 = some (some (0 + es1.length, .pointer (some ⟨pk, 0, none⟩))) := by
                rw [findNow_app 0 (ents_find 0 k2 k7.1)]
                have : ((z : OpL).2.2.1 == (z : OpL).2.2.1) = true := (MapKept.bytes_beq _ _).2 rfl
                simp only [Instr.findNow, i3, Instr.sameNow, this, i4]
              refine fin _ _ (of_calls j3 i1 (lookup_hit i1 hf)) ?_
              show denS κ g w (match (z : OpL).2.2.2 with | some l => lf (.ptr l 0) | none => vl (.pointer none)) _
              rw [e]
              exact ⟨pk, i5, rfl⟩
        · cases hE
      · cases hE
    · rename_i e z ks hb
      obtain ⟨hc, hE⟩ := bif_els1 hE
      obtain rfl := beq_eq hc
      split at hE
      · rename_i he
        subst he
        injection hE with hE
        subst hE
        have hy' : (bif ByteArray.toList (z : ByteArray × Acc).1 == ByteArray.toList k then some () else none) = some _ := hy
        obtain ⟨hk, _⟩ := bif_els hy'
        obtain rfl := strInj hk
        obtain ⟨hL, _⟩ := h.m.blk _ _ (hB _ _ hb)
        have hL : LdK z g w d := hL
        obtain ⟨p', m, posts, es, clock, i, pk, s1, s2, k1, k2, k3, k4, k5, i1, i2, i3, i4, i5⟩ := hL
        rw [hp] at k1
        injection k1 with k1
        subst k1
        refine fin _ _ (of_calls k3 k5 (lookup_hit k5 i1)) ?_
        refine ⟨⟨pk, 0, none⟩, [s1, .int .i64 (z : ByteArray × Acc).2.2.1, s2], by rfl, i2, ?_, ?_⟩
        · exact kdA i4 i5
        · intro i u hu
          rw [show ((⟨pk, 0, none⟩ : Addr).add i) = ⟨pk, i, none⟩ from by unfold Addr.add; split <;> simp_all]
          unfold World.cell?
          simpa [i3] using hu
      · split at hE
        · rename_i he
          subst he
          injection hE with hE
          subst hE
          have hy' : (bif ByteArray.toList (z : ByteArray) == ByteArray.toList k then some () else none) = some _ := hy
          obtain ⟨hk, _⟩ := bif_els hy'
          obtain rfl := strInj hk
          obtain ⟨hL, _⟩ := h.m.blk _ _ (hB _ _ hb)
          have hL : LdN z g w d := hL
          obtain ⟨p', m, posts, es, clock, k1, k2, k3, k4, k5, k6⟩ := hL
          rw [hp] at k1
          injection k1 with k1
          subst k1
          exact fin (.pointer none) _ (of_calls k3 k5 (lookup_miss k5 k6)) rfl
        · cases hE
    · cases hE
  · cases hE
end Go.Proofs.Ytkbhbiceojmnaaa.E
namespace Go.Proofs.Ytkbhbiceojmnaaa.E
open Go
set_option linter.unusedVariables false
set_option maxRecDepth 100000
abbrev A13 : Type := (T903 × ByteArray × Unit)
abbrev B13 : Type := (Int × T903 × Unit)
def i13 : Fr τ A13 := (.ob 0 903 (.val 1 .str .nil))
def o13 : Fr τ B13 := (.val 1000 (.int .i64) (.ob 0 903 .nil))
def G13 : Nat → Option (Ct τ) := tabK [(21, hkOf)] (tabG [])
abbrev LA13_0 : Type := (T903 × Int × (List T45) × Int × Int × Unit)
abbrev LB13_0 : Type := (T903 × Int × Unit)
def li13_0 : Fr τ LA13_0 := (.ob 0 903 (.val 6 (.int .i64) (.val 22 (.sl 45) (.val 23 (.int .i64) (.val 24 (.int .i64) .nil)))))
def lo13_0 : Ot τ LB13_0 := .one (.exit 0) (.ob 0 903 (.val 6 (.int .i64) .nil))
def Q13_0 : LA13_0 → Option (LA13_0 ⊕ LB13_0) := fun ⟨⟨l'_0, ⟨l'_1, ⟨l'_2, l'_3⟩⟩⟩, ⟨sum', ⟨t22', ⟨t23', ⟨t24', ()⟩⟩⟩⟩⟩ => (bif decide (t24' < t23') then ((bif decide (0 ≤ t24') then t22'[Int.toNat t24']? else none).bind fun ⟨y1_0, ⟨y1_1, y1_2⟩⟩ => (let v0 : Int := sum' + y1_2; let v1 : Int := IntKind.wrap IntKind.i64 v0; let v2 : Int := t24' + 1; let v3 : Int := IntKind.wrap IntKind.i64 v2; some (.inl ((l'_0, (l'_1, (l'_2, l'_3))), (v1, (t22', (t23', (v3, ())))))))) else (some (.inr ((l'_0, (l'_1, (l'_2, l'_3))), (sum', ())))))
def R13_0 : LA13_0 → Option (LA13_0 ⊕ LB13_0) := Q13_0
def L13_0 : Lc τ := ⟨li13_0, itrs R13_0, lo13_0⟩
def M13 (l13_0 : LA13_0 → Option LB13_0) : A13 → Option B13 := fun ⟨⟨l'_0, ⟨l'_1, ⟨l'_2, l'_3⟩⟩⟩, ⟨name', ()⟩⟩ => ((bif ByteArray.toList l'_0 == ByteArray.toList name' then some () else none).bind fun () => (let v0 : Int := 0 - l'_2; let v1 : Int := IntKind.wrap IntKind.i64 v0; let v2 : Int := ↑(List.length l'_1); (l13_0 ((l'_0, (l'_1, (l'_2, l'_3))), (v1, (l'_1, (v2, (0, ())))))).bind fun ⟨⟨y1_0, ⟨y1_1, ⟨y1_2, y1_3⟩⟩⟩, ⟨y1_4, ()⟩⟩ => (some (y1_4, ((y1_0, (y1_1, (y1_2, y1_3))), ())))))
def N13 : A13 → Option B13 := M13 (itrs R13_0)
def C13 : Ctr τ := ⟨i13, o13, N13, 0⟩
theorem g13 : GOK κ Try.prog (G13) := (gok_hook hkOf_ok (gok_k0 gok_nil))
theorem le13_0 : ∀ x, Q13_0 x = run Try.prog κ (G13) (tabL []) 0 (loopAt Try.f13 0) (li13_0.build x) (rnd li13_0 lo13_0) := fun x => by kernel_rfl
theorem linner13_0 : ∀ Z : Zn, Z.rl = [0] → 34 ≤ Z.nt → ∀ p ∈ loops 0 (loopAt Try.f13 0), ∀ C, (tabL []) p.1 = some C → LoopOK κ Try.prog Z p.2 C := fun Z h n => fun p hp => (by cases (show p ∈ ([] : List (Nat × Code)) from hp))
theorem lk13_0 : ∀ Z : Zn, Z.rl = [0] → 34 ≤ Z.nt → LoopOK κ Try.prog Z (loopAt Try.f13 0) L13_0 := fun Z h n => loop_ok (S := (tabL [])) R13_0 (by kernel_rfl) g13 (by rw [h]; exact dsts_mono n _ (by kernel_rfl)) (linner13_0 Z h n) (by kernel_rfl) (by kernel_rfl) (le13_0) itrs_rounds
theorem lall13 : ∀ Z : Zn, Z.rl = C13.o.keeps → Try.f13.ntmps ≤ Z.nt → ∀ p ∈ loops 0 (bodyOf Try.f13), ∀ C, (tabL [(0, L13_0)]) p.1 = some C → LoopOK κ Try.prog Z p.2 C := fun Z h n => all_loops [(0, loopAt Try.f13 0)] (by kernel_rfl) (all_cons (fun C hC => (Option.some.inj hC : L13_0 = C) ▸ lk13_0 Z h n) (fun _ h => by cases h))
theorem e13 : ∀ (l13_0 : LA13_0 → Option LB13_0) x, M13 l13_0 x = fnE Try.prog κ (G13) (tabL [(0, (⟨li13_0, l13_0, lo13_0⟩ : Lc τ))]) Try.f13 i13 o13 x := fun l13_0 x => by kernel_rfl
theorem s13 : Sound κ Try.prog C13 13 := fn_sound (S := (tabL [(0, L13_0)])) (F := Try.f13) (code := bodyOf Try.f13) (by kernel_rfl) g13 Try.func13 (by kernel_rfl) (by kernel_rfl) (by kernel_rfl) lall13 (by kernel_rfl) (by kernel_rfl) fun x y h => (e13 (itrs R13_0) x).symm.trans h
end Go.Proofs.Ytkbhbiceojmnaaa.E
/-
  Whole orders; cmp's comparisons. No condition.
-/
namespace Go.Proofs.Ytkbhbiceojmnaaa.E
open Go Go.Sort
set_option linter.unusedVariables false
set_option linter.unusedSimpArgs false
set_option maxRecDepth 100000
/-- A whole order. -/
structure Tot {α : Type} (lt : α → α → Bool) : Prop where
  irr : ∀ x, lt x x = false
  trans : ∀ x y z, lt x y = true → lt y z = true → lt x z = true
  tri : ∀ x y, lt x y = false → lt y x = false → x = y
theorem Tot.swo {α : Type} {lt : α → α → Bool} (h : Tot lt) : SWO lt := ⟨h.irr, h.trans, fun x y z h1 h2 => by
  cases h3 : lt x z with
  | false => rfl
  | true =>
    cases h4 : lt y x with
    | true => rw [h.trans y x z h4 h3] at h2; exact h2
    | false => rw [h.tri x y h1 h4, h2] at h3; cases h3⟩
def lexL {α β : Type} (l1 : α → α → Bool) (l2 : β → β → Bool) (x y : α × β) : Bool := l1 x.1 y.1 || (!(l1 y.1 x.1) && l2 x.2 y.2)
theorem Tot.lex {α β : Type} {l1 : α → α → Bool} {l2 : β → β → Bool} (h1 : Tot l1) (h2 : Tot l2) : Tot (lexL l1 l2) := ⟨fun x => by simp [lexL, h1.irr, h2.irr], fun x y z a b => by
  obtain ⟨x1, x2⟩ := x
  obtain ⟨y1, y2⟩ := y
  obtain ⟨z1, z2⟩ := z
  simp only [lexL, Bool.or_eq_true, Bool.and_eq_true, Bool.not_eq_true'] at *
  rcases a with a | ⟨a, a2⟩
  · rcases b with b | ⟨b, b2⟩
    · exact .inl (h1.trans _ _ _ a b)
    · cases c : l1 y1 z1 with
      | true => exact .inl (h1.trans _ _ _ a c)
      | false => rw [← h1.tri _ _ c b]; exact .inl a
  · cases c : l1 x1 y1 with
    | true =>
      rcases b with b | ⟨b, b2⟩
      · exact .inl (h1.trans _ _ _ c b)
      · cases c2 : l1 y1 z1 with
        | true => exact .inl (h1.trans _ _ _ c c2)
        | false => rw [← h1.tri _ _ c2 b]; exact .inl c
    | false =>
      have e := h1.tri _ _ c a
      subst e
      rcases b with b | ⟨b, b2⟩
      · exact .inl b
      · exact .inr ⟨b, h2.trans _ _ _ a2 b2⟩, fun x y a b => by
  obtain ⟨x1, x2⟩ := x
  obtain ⟨y1, y2⟩ := y
  simp only [lexL, Bool.or_eq_false_iff] at *
  obtain ⟨a, a2⟩ := a
  obtain ⟨b, b2⟩ := b
  rw [b] at a2
  rw [a] at b2
  rw [h1.tri x1 y1 a b, h2.tri x2 y2 (by simpa using a2) (by simpa using b2)]⟩
def ltI (x y : Int) : Bool := decide (x < y)
theorem totI : Tot ltI := ⟨fun x => by simp [ltI], fun x y z h1 h2 => by simp only [ltI, decide_eq_true_eq] at *; omega, fun x y h1 h2 => by simp only [ltI, decide_eq_false_iff_not] at *; omega⟩
theorem totL : Tot Op.bytesLess := by
  refine ⟨fun x => ?_, ?_, ?_⟩
  · induction x with
    | nil => rfl
    | cons a x ih => simp [Op.bytesLess, ih]
  · intro x
    induction x with
    | nil =>
      intro y z h1 h2
      cases z with
      | nil => cases y <;> simp [Op.bytesLess] at h2
      | cons c z => rfl
    | cons a x ih =>
      intro y z h1 h2
      cases y with
      | nil => simp [Op.bytesLess] at h1
      | cons b y =>
        cases z with
        | nil => simp [Op.bytesLess] at h2
        | cons c z =>
          simp only [Op.bytesLess, Bool.or_eq_true, Bool.and_eq_true, decide_eq_true_eq, beq_iff_eq, UInt8.lt_iff_toNat_lt] at *
          rcases h1 with h1 | ⟨rfl, h1⟩
          · rcases h2 with h2 | ⟨rfl, h2⟩
            · exact .inl (by omega)
            · exact .inl h1
          · rcases h2 with h2 | ⟨rfl, h2⟩
            · exact .inl h2
            · exact .inr ⟨rfl, ih _ _ h1 h2⟩
  · intro x
    induction x with
    | nil =>
      intro y h1 h2
      cases y with
      | nil => rfl
      | cons b y => simp [Op.bytesLess] at h1
    | cons a x ih =>
      intro y h1 h2
      cases y with
      | nil => simp [Op.bytesLess] at h2
      | cons b y =>
        simp only [Op.bytesLess, Bool.or_eq_false_iff, decide_eq_false_iff_not, UInt8.lt_iff_toNat_lt] at *
        have e : a = b := UInt8.toNat_inj.1 (by omega)
        subst e
        simp only [beq_self_eq_true, Bool.true_and] at h1 h2
        rw [ih _ h1.2 h2.2]
def ltB (x y : ByteArray) : Bool := Op.bytesLess (ByteArray.toList x) (ByteArray.toList y)
theorem toList_inj {x y : ByteArray} (h : ByteArray.toList x = ByteArray.toList y) : x = y := by
  rw [ByteArray.toList_eq x, ByteArray.toList_eq y] at h
  obtain ⟨⟨x⟩⟩ := x
  obtain ⟨⟨y⟩⟩ := y
  exact congrArg (fun l : List UInt8 => (⟨⟨l⟩⟩ : ByteArray)) h
theorem totB : Tot ltB := ⟨fun x => totL.irr _, fun x y z => totL.trans _ _ _, fun x y h1 h2 => toList_inj (totL.tri _ _ h1 h2)⟩
def sgn {α : Type} (lt : α → α → Bool) (x y : α) : Int := bif lt x y then -1 else bif lt y x then 1 else 0
def firstV (l : List Int) : Int := (l.find? (· != 0)).getD 0
theorem or_loop {L : List Int} (hL : L.length ≤ 1000000) : ∀ (n i : Nat), i + n = L.length → itr R40_0 (n + 1) (0, L, (L.length : Int), (i : Int), ()) = some (match (L.drop i).find? (· != 0) with | some y => .inr (y, ()) | none => .inl (0, ()))
  | 0, i, h => by
    rw [List.drop_eq_nil_of_le (by omega)]
    refine itr_out ?_
    unfold R40_0 Q40_0
    simp only []
    rw [bif_f (c := decide ((i : Int) < (L.length : Int))) (decide_eq_false (by omega))]
    rfl
  | n + 1, i, h => by
    have hi : i < L.length := by omega
    have hg := at_get hi
    have hro : R40_0 (0, L, (L.length : Int), (i : Int), ()) = bif L[i] != 0 then some (.inr (.inr (L[i], ()))) else some (.inl (0, L, (L.length : Int), ((i + 1 : Nat) : Int), ())) := by
      unfold R40_0 Q40_0
      simp only []
      rw [bif_t (c := decide ((i : Int) < (L.length : Int))) (decide_eq_true (by omega)), hg]
      simp only [Option.bind_some]
      rw [wsi (n := (i : Int) + 1) (by omega)]
      rfl
    rw [List.drop_eq_getElem_cons hi, List.find?_cons]
    cases hc : (L[i] != 0) with
    | true =>
      rw [hc, cond_true] at hro
      exact itr_out hro
    | false =>
      rw [hc, cond_false] at hro
      rw [itr_in hro]
      exact or_loop hL n (i + 1) (by omega)
theorem mOr {L : List Int} (hL : L.length ≤ 1000000) : N40 (L, ()) = some (firstV L, ()) := by
  have h := itrs_eq (or_loop hL L.length 0 (by omega)) rfl (by omega)
  rw [show ((0 : Nat) : Int) = 0 from rfl, List.drop_zero] at h
  unfold N40 M40 firstV
  simp only []
  rw [h]
  cases L.find? (· != 0) <;> rfl
theorem mCmpI (x y : Int) : N42 (x, y, ()) = some (sgn ltI x y, ()) ∧ N41 (x, y, ()) = some (sgn ltI x y, ()) := by
  constructor
  · unfold N42 M42 sgn ltI
    simp only []
    rw [show ∀ z, N56 (z, ()) = some (false, ()) from fun z => by unfold N56 M56; simp, show ∀ z, N56 (z, ()) = some (false, ()) from fun z => by unfold N56 M56; simp]
    simp only [Option.bind_some, cond_false]
    by_cases h1 : x < y <;> by_cases h2 : y < x <;> simp [h1, h2]
  · unfold N41 M41 sgn ltI
    simp only []
    rw [show ∀ z, N55 (z, ()) = some (false, ()) from fun z => by unfold N55 M55; simp, show ∀ z, N55 (z, ()) = some (false, ()) from fun z => by unfold N55 M55; simp]
    simp only [Option.bind_some, cond_false]
    by_cases h1 : x < y <;> by_cases h2 : y < x <;> simp [h1, h2]
theorem sgn_lt {α : Type} {lt : α → α → Bool} (h : Tot lt) (x y : α) : decide (sgn lt x y < 0) = lt x y ∧ (sgn lt x y != 0) = (lt x y || lt y x) := by
  unfold sgn
  cases h1 : lt x y with
  | true => exact ⟨rfl, rfl⟩
  | false => cases h2 : lt y x <;> exact ⟨rfl, rfl⟩
theorem first_cons (x : Int) (l : List Int) : firstV (x :: l) = bif x != 0 then x else firstV l := by
  unfold firstV
  rw [List.find?_cons]
  cases (x != 0) <;> rfl
theorem dec_bif (c : Bool) (x y : Int) : decide ((bif c then x else y) < 0) = bif c then decide (x < 0) else decide (y < 0) := by cases c <;> rfl
end Go.Proofs.Ytkbhbiceojmnaaa.E
/-
  The order of open bills. No condition.
-/
namespace Go.Proofs.Ytkbhbiceojmnaaa.E
open Go Go.Sort
set_option linter.unusedVariables false
set_option linter.unusedSimpArgs false
set_option maxRecDepth 100000
abbrev Qe : Type := Int × Int × Int
abbrev qz : Qe := (0, 0, 0)
/-- By the day, then by the number. -/
def qlt (a b : Qe) : Bool := lexL ltI ltI (a.2.1, a.1) (b.2.1, b.1)
theorem qkTot : Tot (lexL ltI ltI) := totI.lex totI
theorem qswo : SWO qlt := ⟨fun a => qkTot.irr _, fun a b c h1 h2 => qkTot.trans _ _ _ h1 h2, fun a b c h1 h2 => qkTot.swo.ntrans _ _ _ h1 h2⟩
theorem q_tri (a b : Qe) (h1 : qlt a b = false) (h2 : qlt b a = false) : a.2.1 = b.2.1 ∧ a.1 = b.1 := by
  have := qkTot.tri (a.2.1, a.1) (b.2.1, b.1) h1 h2
  injection this with e1 e2
  exact ⟨e1, e2⟩
def cmpQ (a b : Qe) : Int := firstV [sgn ltI a.2.1 b.2.1, sgn ltI a.1 b.1]
theorem mCompare (a b : Qe) : N31 (a, b, ()) = some (cmpQ a b, ()) := by
  obtain ⟨a1, a2, a3⟩ := a
  obtain ⟨b1, b2, b3⟩ := b
  unfold N31 M31 cmpQ
  simp only []
  rw [(mCmpI a2 b2).2, (mCmpI a1 b1).1]
  simp only [Option.bind_some]
  rw [mOr (by simp)]
  rfl
theorem cmpQ_lt (a b : Qe) : decide (cmpQ a b < 0) = qlt a b := by
  obtain ⟨p1, p2⟩ := sgn_lt totI a.2.1 b.2.1
  obtain ⟨q1, q2⟩ := sgn_lt totI a.1 b.1
  unfold cmpQ qlt lexL
  rw [first_cons, dec_bif, p1, p2, first_cons, dec_bif, q1, q2]
  rw [show decide (firstV [] < 0) = false from rfl]
  cases ltI a.2.1 b.2.1 <;> cases ltI b.2.1 a.2.1 <;> cases ltI a.1 b.1 <;> cases ltI b.1 a.1 <;> rfl
end Go.Proofs.Ytkbhbiceojmnaaa.E
/-
  slices.SortFunc by the order of open bills. No condition. (The laying of the shelf's contract is the kit's own print.)
-/
namespace Go.Proofs
open Go.Shelf
def Try.sortR_ren : Go.Shelf.Ren := ⟨fun | 6 => 30 | 15 => 39 | 14 => 38 | 28 => 53 | 29 => 54 | 20 => 45 | 21 => 46 | 22 => 47 | 23 => 48 | 24 => 49 | 25 => 50 | 26 => 51 | 27 => 52 | 46 => 66 | 47 => 67 | 48 => 68 | 49 => 69 | 50 => 70 | 57 => 75 | n => n, fun | 22 => 38 | 24 => 45 | 25 => 67 | 3 => 3 | 39 => 80 | 0 => 0 | 53 => 98 | 55 => 100 | 4 => 4 | 46 => 91 | 45 => 90 | 50 => 95 | 5 => 5 | 9 => 9 | 66 => 109 | 70 => 113 | 76 => 118 | 77 => 119 | n => n, fun | n => n⟩
theorem Try.sortR : Go.Proofs.SlLaysF0.n6 Try.prog Try.sortR_ren := {
  mixed := by kernel_rfl
  f6 := ⟨Try.f30.name, by decide, Try.func30.trans (congrArg some (by kernel_rfl))⟩
  f14 := ⟨Try.f38.name, by decide, Try.func38.trans (congrArg some (by kernel_rfl))⟩
  f15 := Try.func39.trans (congrArg some (by kernel_rfl))
  f20 := ⟨Try.f45.name, by decide, Try.func45.trans (congrArg some (by kernel_rfl))⟩
  f21 := ⟨Try.f46.name, by decide, Try.func46.trans (congrArg some (by kernel_rfl))⟩
  f22 := ⟨Try.f47.name, by decide, Try.func47.trans (congrArg some (by kernel_rfl))⟩
  f23 := ⟨Try.f48.name, by decide, Try.func48.trans (congrArg some (by kernel_rfl))⟩
  f24 := ⟨Try.f49.name, by decide, Try.func49.trans (congrArg some (by kernel_rfl))⟩
  f25 := ⟨Try.f50.name, by decide, Try.func50.trans (congrArg some (by kernel_rfl))⟩
  f26 := ⟨Try.f51.name, by decide, Try.func51.trans (congrArg some (by kernel_rfl))⟩
  f27 := ⟨Try.f52.name, by decide, Try.func52.trans (congrArg some (by kernel_rfl))⟩
  f28 := Try.func53.trans (congrArg some (by kernel_rfl))
  f29 := Try.func54.trans (congrArg some (by kernel_rfl))
  f46 := ⟨Try.f66.name, by decide, Try.func66.trans (congrArg some (by kernel_rfl))⟩
  f47 := Try.func67.trans (congrArg some (by kernel_rfl))
  f48 := Try.func68.trans (congrArg some (by kernel_rfl))
  f49 := ⟨Try.f69.name, by decide, Try.func69.trans (congrArg some (by kernel_rfl))⟩
  f50 := ⟨Try.f70.name, by decide, Try.func70.trans (congrArg some (by kernel_rfl))⟩
  f57 := ⟨Try.f75.name, by decide, Try.func75.trans (congrArg some (by kernel_rfl))⟩
  t0 := Try.underlying0
  a0 := Try.isAgg0
  z0 := Try.sizeOf0
  v0 := Try.zeroValue0
  t3 := Try.underlying3
  a3 := Try.isAgg3
  z3 := Try.sizeOf3
  v3 := Try.zeroValue3
  t4 := Try.underlying4
  a4 := Try.isAgg4
  z4 := Try.sizeOf4
  v4 := Try.zeroValue4
  t5 := Try.underlying5
  a5 := Try.isAgg5
  z5 := Try.sizeOf5
  v5 := Try.zeroValue5
  t9 := Try.underlying9
  a9 := Try.isAgg9
  z9 := Try.sizeOf9
  v9 := Try.zeroValue9
  t22 := Try.underlying38
  a22 := Try.isAgg38
  z22 := Try.sizeOf38
  v22 := Try.zeroValue38
  t25 := Try.underlying67
  a25 := Try.isAgg67
  z25 := Try.sizeOf67
  v25 := Try.zeroValue67
  t39 := Try.underlying80
  a39 := Try.isAgg80
  z39 := Try.sizeOf80
  v39 := Try.zeroValue80
  t45 := Try.underlying90
  a45 := Try.isAgg90
  z45 := Try.sizeOf90
  v45 := Try.zeroValue90
  t46 := Try.underlying91
  a46 := Try.isAgg91
  z46 := Try.sizeOf91
  v46 := Try.zeroValue91
  t50 := Try.underlying95
  a50 := Try.isAgg95
  z50 := Try.sizeOf95
  v50 := Try.zeroValue95
  t53 := Try.underlying98
  a53 := Try.isAgg98
  z53 := Try.sizeOf98
  v53 := Try.zeroValue98
  t55 := Try.underlying100
  a55 := Try.isAgg100
  z55 := Try.sizeOf100
  v55 := Try.zeroValue100
  t66 := Try.underlying109
  a66 := Try.isAgg109
  z66 := Try.sizeOf109
  v66 := Try.zeroValue109
  t70 := Try.underlying113
  a70 := Try.isAgg113
  z70 := Try.sizeOf113
  v70 := Try.zeroValue113
  t76 := Try.underlying118
  a76 := Try.isAgg118
  z76 := Try.sizeOf118
  v76 := Try.zeroValue118
  t77 := Try.underlying119
  a77 := Try.isAgg119
  z77 := Try.sizeOf119
  v77 := Try.zeroValue119 }
end Go.Proofs
namespace Go.Proofs.Ytkbhbiceojmnaaa.E
open Go Go.Shelf Go.RowKit Go.Lib Go.Sort
set_option linter.unusedVariables false
set_option linter.unusedSimpArgs false
set_option maxRecDepth 100000
theorem ltV : ltOf cmpQ = qlt := by
  funext a b
  exact cmpQ_lt a b
theorem swoV : SWO (ltOf cmpQ) := by rw [ltV]; exact qswo
/-- No two bills of one day and number. -/
def apartQ (l : List T45) : Bool := l.all fun a => l.all fun b => !(a.1 == b.1) || a == b
theorem apartQ_tri (l : List T45) (h : apartQ l = true) : ∀ x ∈ l, ∀ y ∈ l, ltOf cmpQ x y = false → ltOf cmpQ y x = false → x = y := by
  intro x hx y hy h1 h2
  rw [ltV] at h1 h2
  obtain ⟨_, e⟩ := q_tri x y h1 h2
  unfold apartQ at h
  simp only [List.all_eq_true] at h
  have := h x hx y hy
  simpa [e] using this
def cSortG {τ : Nat → Type} (e g : Nat) (cf : τ e → τ e → Int) (ok : List (τ e) → Bool) : Ctr τ := ⟨.own 0 e (.val 1 (.fnc g) .nil), .own 0 e .nil, fun x => bif decide (x.1.length ≤ 4611686018427387903) && ok x.1 then some (sortV cf x.1, ()) else none, 0⟩
theorem sortOK : Sound κ Try.prog (cSortG (e := 45) (g := 31) (cf := cmpQ) (ok := apartQ) (τ := τ)) 30 :=
  sort_soundG (κ := κ) (e := 45) (cf := cmpQ) (ok := apartQ) ((0, 0, 0) : T45) rfl rfl (by decide) s31 mCompare Try.func31 (by kernel_rfl) (code := bodyOf Try.f31) (by kernel_rfl) swoV apartQ_tri Try.func30 (by kernel_rfl) (codef := bodyOf Try.f30) (by kernel_rfl) Try.sortR rfl (fun w => by kernel_rfl) (fun w => by kernel_rfl)
end Go.Proofs.Ytkbhbiceojmnaaa.E
/-
  slices.Clone of open bills. No condition.
-/
namespace Go.Proofs
open Go.Shelf Go.RowKit Go.Lib Go.Sort
theorem clone_nil (n c : Nat) (w : World) : Calls Try.prog 29 #[.slice none n c] w fun e w' => e = .returned (.slice none 0 0) ∧ w' = w := by
  have q22 : ∀ (w : World) (a : Option Addr) (n c n' c' : Nat), (binOp .eql 38 (.slice a n c) (.slice none n' c')).run Try.prog w = .ok (.bool a.isNone) w := fun w a n c n' c' => Lib.run_eql_slice_nil w _ _ a n c n' c' Try.underlying38
  go_enter Try.func29, Try.ntmps29
  go_wp2
  go_ret
  exact ⟨rfl, rfl⟩
theorem clone_zero (a : Addr) (c : Nat) (w : World) : Calls Try.prog 29 #[.slice (some a) 0 c] w fun e w' => e = .returned (.slice (some ⟨w.heap.size, 0, none⟩) 0 0) ∧ w' = w.alloc (.cells #[] 45) := by
  have q22 : ∀ (w : World) (a : Option Addr) (n c n' c' : Nat), (binOp .eql 38 (.slice a n c) (.slice none n' c')).run Try.prog w = .ok (.bool a.isNone) w := fun w a n c n' c' => Lib.run_eql_slice_nil w _ _ a n c n' c' Try.underlying38
  have u22 : ∀ w, Sem.run Try.prog (underlying 38) w = .ok (TypeDesc.slice 45) w := run_underlying Try.underlying38
  go_enter Try.func29, Try.ntmps29
  go_wp2
  go_ret
  exact ⟨rfl, rfl⟩
end Go.Proofs
namespace Go.Proofs.Ytkbhbiceojmnaaa.E
open Go
set_option linter.unusedVariables false
def cCloneG {τ : Nat → Type} (e : Nat) (F : List (τ e) × Unit → Option (List (τ e) × Unit)) : Ctr τ := ⟨.val 0 (.sl e) .nil, .own 1000 e .nil, fun x => bif x.1.isEmpty then some ([], ()) else F x, 0⟩
theorem cloneOK : Sound κ Try.prog (cCloneG (e := 45) (F := N29) (τ := τ)) 29 :=
  clone_sound s29 Try.func29 (by kernel_rfl) (code := bodyOf Try.f29) (by kernel_rfl) clone_nil clone_zero
end Go.Proofs.Ytkbhbiceojmnaaa.E
namespace Go.Proofs.Ytkbhbiceojmnaaa.E
open Go
set_option linter.unusedVariables false
set_option maxRecDepth 100000
abbrev A16 : Type := (T903 × ByteArray × Unit)
abbrev B16 : Type := ((List T45) × T903 × Unit)
def i16 : Fr τ A16 := (.ob 0 903 (.val 1 .str .nil))
def o16 : Fr τ B16 := (.own 1000 45 (.ob 0 903 .nil))
def G16 (c29 : (List T45 × Unit) → Option (List T45 × Unit)) (c30 : (List T45 × Unit × Unit) → Option (List T45 × Unit)) (c31 : A31 → Option B31) : Nat → Option (Ct τ) := tabK [(21, hkOf)] (tabG [(29, ({ (cCloneG (e := 45) (F := N29) (τ := τ)) with f := c29 } : Ctr τ)), (30, ({ (cSortG (e := 45) (g := 31) (cf := cmpQ) (ok := apartQ) (τ := τ)) with f := c30 } : Ctr τ)), (31, (⟨i31, o31, c31, 0⟩ : Ctr τ))])
def M16 (c29 : (List T45 × Unit) → Option (List T45 × Unit)) (c30 : (List T45 × Unit × Unit) → Option (List T45 × Unit)) (c31 : A31 → Option B31) : A16 → Option B16 := fun ⟨⟨l'_0, ⟨l'_1, ⟨l'_2, l'_3⟩⟩⟩, ⟨name', ()⟩⟩ => ((bif ByteArray.toList l'_0 == ByteArray.toList name' then some () else none).bind fun () => ((c29 (l'_1, ())).bind fun ⟨y1, ()⟩ => ((c30 (y1, ((), ()))).bind fun ⟨y2, ()⟩ => (some (y2, ((l'_0, (l'_1, (l'_2, l'_3))), ()))))))
def N16 : A16 → Option B16 := M16 (cCloneG (e := 45) (F := N29) (τ := τ)).f (cSortG (e := 45) (g := 31) (cf := cmpQ) (ok := apartQ) (τ := τ)).f N31
def C16 : Ctr τ := ⟨i16, o16, N16, 0⟩
theorem g16 : GOK κ Try.prog (G16 (cCloneG (e := 45) (F := N29) (τ := τ)).f (cSortG (e := 45) (g := 31) (cf := cmpQ) (ok := apartQ) (τ := τ)).f N31) := (gok_hook hkOf_ok (gok_k0 (gok_cons cloneOK (keeps0 rfl) (gok_cons sortOK (keeps0 rfl) (gok_cons s31 (keeps0 rfl) gok_nil)))))
theorem lall16 : ∀ Z : Zn, Z.rl = C16.o.keeps → Try.f16.ntmps ≤ Z.nt → ∀ p ∈ loops 0 (bodyOf Try.f16), ∀ C, (tabL []) p.1 = some C → LoopOK κ Try.prog Z p.2 C := fun Z h n => fun p hp => (by cases (show p ∈ ([] : List (Nat × Code)) from hp))
theorem e16 : ∀ (c29 : (List T45 × Unit) → Option (List T45 × Unit)) (c30 : (List T45 × Unit × Unit) → Option (List T45 × Unit)) (c31 : A31 → Option B31) x, M16 c29 c30 c31 x = fnE Try.prog κ (G16 c29 c30 c31) (tabL []) Try.f16 i16 o16 x := fun c29 c30 c31 x => by kernel_rfl
theorem s16 : Sound κ Try.prog C16 16 := fn_sound (S := (tabL [])) (F := Try.f16) (code := bodyOf Try.f16) (by kernel_rfl) g16 Try.func16 (by kernel_rfl) (by kernel_rfl) (by kernel_rfl) lall16 (by kernel_rfl) (by kernel_rfl) fun x y h => (e16 (cCloneG (e := 45) (F := N29) (τ := τ)).f (cSortG (e := 45) (g := 31) (cf := cmpQ) (ok := apartQ) (τ := τ)).f N31 x).symm.trans h
end Go.Proofs.Ytkbhbiceojmnaaa.E
/-
  A ledger's map, written: an account of a new name. No condition.
-/
namespace Go.Proofs
open Go.Shelf Go.RowKit Go.Lib Go.Sort
theorem mapUpdate_new {w : World} {m : Nat} {es : List MapEntry} {clock : Nat} {k : ByteArray} {v : Value} (hm : w.heap[m]? = some (.map es.toArray clock)) (hf : Instr.findNow .string (.string k) es 0 = some none) :
    (Instr.mapUpdate 48 (.map (some m)) (.string k) v).run Try.prog w = .ok () { w with heap := w.heap.setIfInBounds m (.map (es ++ [MapEntry.mk (.string k) v clock]).toArray (clock + 1)) } := by
  have h1 := MapKept.run_findKey (P := Try.prog) (w := w) (l := es) u9 hf
  have h2 := MapKept.run_checkKey (P := Try.prog) (w := w) (k := .string k) u9 trivial false 9999
  have h0 := MapKept.run_getObj_map (P := Try.prog) hm
  have h3 : ∀ o, (setObj m o).run Try.prog w = .ok () { w with heap := w.heap.setIfInBounds m o } := fun o => MapKept.run_setObj_map o hm
  unfold Instr.mapUpdate
  simp only [Sem.run_bind, run_underlying u48, Result.andThen, h0, h2, h1, h3]
  rw [show (es.toArray.push (MapEntry.mk (.string k) v clock)) = (es ++ [MapEntry.mk (.string k) v clock]).toArray from by simp]
end Go.Proofs
namespace Go.Proofs.Ytkbhbiceojmnaaa.E
open Go
set_option linter.unusedVariables false
set_option linter.unusedSimpArgs false
def muE (m d : Nat) (k : ByteArray) (ks : List Nat) (y : OpL) : Option (Eff τ) :=
  match y.2.2.2 with
  | none => some ⟨bif ByteArray.toList y.2.2.1 == ByteArray.toList k then some () else none, fun _ => ⟨vl undef, [(m, some (.ob 901 (show τ 901 from ((y.1 ++ y.2.1, [], y.2.2.1, some d) : OpL)) ks))], []⟩⟩
  | some _ => none
def muH (id : Nat) (B : Nat → Option (Blk τ)) (R : Nat → Option (Row τ)) : List (SV τ) → Option (Eff τ)
  | [.c (.lf (.mh m)), .c (.lf (.v (.string k))), .c (.lf (.ptr d o))] =>
    match B m with
    | some (.ob e x ks) =>
      bif Nat.beq o 0 && !ks.isEmpty then (if h : e = 901 then muE m d k ks (castE h x) else none) else none
    | _ => none
  | _ => none
def hkMu : Hook τ := ⟨muH, by
  intro id B R args E y h
  unfold muH at h
  split at h
  · split at h
    · rename_i hb
      obtain ⟨_, h⟩ := bif_els1 h
      split at h
      · unfold muE at h
        split at h
        · injection h with h
          subst h
          refine ⟨fun p hp => .inr ?_, fun p hp => nomatch hp⟩
          rw [List.mem_singleton.1 hp]
          exact ⟨_, hb⟩
        · cases h
      · cases h
    · cases h
  · cases h⟩
theorem born_new {es : List MapEntry} {clock : Nat} {e : MapEntry} (h : Born es clock) (he : e.born = clock) : Born (es ++ [e]) (clock + 1) := by
  obtain ⟨h1, h2⟩ := h
  refine ⟨?_, fun x hx => ?_⟩
  · rw [List.map_append, List.nodup_append]
    refine ⟨h1, by simp, fun a ha b hb => ?_⟩
    obtain ⟨x, hx, rfl⟩ := List.mem_map.1 ha
    have := h2 x hx
    simp only [List.map_cons, List.map_nil, List.mem_singleton] at hb
    omega
  · rcases List.mem_append.1 hx with hx | hx
    · have := h2 x hx; omega
    · rw [List.mem_singleton.1 hx]; omega
theorem hkMu_ok : HookOK κ Try.prog hkMu 1000048 := by
  intro Z fr g s a w o Q id B R args vals E y h hd hB hR hid ha hrun hE hy
  unfold hookRun at hrun
  rw [if_neg (by decide)] at hrun
  obtain ⟨mv, kv, vv, hv, hrun⟩ := hrun
  have hE : muH id B R args = some E := hE
  unfold muH at hE
  split at hE
  · rename_i m k d q hq0
    rw [hv] at ha
    cases ha with
    | cons a1 ha =>
    cases ha with
    | cons a2 ha =>
    cases ha with
    | cons a3 ha =>
    obtain ⟨p, hp, rfl⟩ := a1
    obtain rfl := a2
    obtain ⟨pk, hpk, rfl⟩ := a3
    split at hE
    · rename_i e z ks hb
      replace hE := bif_els1 hE
      obtain ⟨hc, hE⟩ := hE
      simp only [Bool.and_eq_true, Bool.not_eq_true'] at hc
      obtain rfl := beq_eq hc.1
      split at hE
      · rename_i he
        subst he
        have hE : muE m d k ks (z : OpL) = some E := hE
        unfold muE at hE
        split at hE
        · rename_i hl
          injection hE with hE
          subst hE
          have hy' : (bif ByteArray.toList (z : OpL).2.2.1 == ByteArray.toList k then some () else none) = some _ := hy
          obtain ⟨hk, _⟩ := bif_els hy'
          obtain rfl := strInj hk
          obtain ⟨hL, _⟩ := h.m.blk _ _ (hB _ _ hb)
          have hL : LdO z g w m := hL
          obtain ⟨m', es1, es2, clock, fps1, fps2, k1, k2, k3, k4, k5, k6, k7, k8⟩ := hL
          rw [hp] at k1
          injection k1 with k1
          subst k1
          have hl : (z : OpL).2.2.2 = none := hl
          rw [hl] at k8
          obtain ⟨k8, k9⟩ := k8
          have k7' := k7
          simp only [List.map_append, List.mem_append, not_or] at k7'
          have hf : Instr.findNow .string (.string (z : OpL).2.2.1) (es1 ++ es2) 0 = some none := by
            rw [findNow_app 0 (ents_find 0 k2 k7'.1)]
            exact ents_find _ k3 k7'.2
          have hset := mapUpdate_new (v := .pointer (some ⟨pk, 0, none⟩)) k8 hf
          rw [show (1000048 - 1000000) = 48 from rfl, hset] at hrun
          have hlt : p < w.heap.size := (Array.getElem?_eq_some_iff.1 k8).1
          have hpt : g.tag p = .blk m := k5 p (by simp)
          refine wp_skip' hrun ?_
          have hch : Chg g w g { w with heap := w.heap.setIfInBounds p (.map ((es1 ++ es2) ++ [MapEntry.mk (.string (z : OpL).2.2.1) (.pointer (some ⟨pk, 0, none⟩)) clock]).toArray (clock + 1)) } (fun q => q = m) (fun _ => False) := by
            refine ⟨fun _ _ h => h, fun _ _ _ h => h, fun _ _ _ h => h, fun q hq hb2 _ => ⟨rfl, ?_⟩, fun q hq => h.j.free q (by simpa using hq), fun q hq k => k (by simpa using hq), by simp, rfl, rfl, rfl, Nat.le_refl _⟩
            have hne : q ≠ p := fun e => hb2 m rfl (by rw [e]; exact hpt)
            simp [Ne.symm hne]
          refine ⟨g, rep_step h hch (by exact rfl) hd (fun q b e => ?_) (fun q R e => .inl ⟨e, not_false⟩) (Nx.free h id)⟩
          simp only [updL] at e
          by_cases hq : q = m
          · subst hq
            rw [upd_same] at e
            injection e with e
            subst e
            refine .inr ⟨?_, fun e => ?_⟩
            · show LdO _ _ _ _
              have hnd : (fps1 ++ fps2).Nodup ∧ p ∉ fps1 ++ fps2 := ⟨(List.nodup_cons.1 k4).2, (List.nodup_cons.1 k4).1⟩
              have hsame : ∀ r ∈ fps1 ++ fps2, (w.heap.setIfInBounds p (.map ((es1 ++ es2) ++ [MapEntry.mk (.string (z : OpL).2.2.1) (.pointer (some ⟨pk, 0, none⟩)) clock]).toArray (clock + 1)))[r]? = w.heap[r]? := fun r hr => by
                have hne : r ≠ p := fun e => hnd.2 (e ▸ hr)
                simp [Ne.symm hne]
              refine ⟨p, es1 ++ es2, [], clock + 1, fps1 ++ fps2, [], hp, ents_app (ents_same k2 fun r hr => hsame r (List.mem_append_left _ hr)) (ents_same k3 fun r hr => hsame r (List.mem_append_right _ hr)), .nil, by simpa using k4, by simpa using k5, by simpa using k6, by simpa using k7, ?_⟩
              exact ⟨MapEntry.mk (.string (z : OpL).2.2.1) (.pointer (some ⟨pk, 0, none⟩)) clock, pk, by simp [hlt], born_new k9 rfl, rfl, rfl, hpk⟩
            · rw [e] at hc; exact absurd hc.2 (by decide)
          · rw [upd_ne _ _ hq] at e
            exact .inl ⟨e, hq⟩
        · cases hE
      · cases hE
    · cases hE
  · cases hE
end Go.Proofs.Ytkbhbiceojmnaaa.E
/-
  A ledger opened at a name: what the evaluator's state says of it; Balance, asked while it is open. No condition.
-/
namespace Go.Proofs.Ytkbhbiceojmnaaa.E
open Go
set_option linter.unusedVariables false
set_option linter.unusedSimpArgs false
theorem flatten_get {sz : Nat} : ∀ {cs : List (List Value)} {j i : Nat} {l : List Value} {u : Value}, (∀ x ∈ cs, x.length = sz) → cs[j]? = some l → l[i]? = some u → cs.flatten[j * sz + i]? = some u
  | [], j, i, l, u, _, h, _ => by simp at h
  | c :: cs, 0, i, l, u, hs, h, hu => by
    simp only [List.getElem?_cons_zero, Option.some.injEq] at h
    subst h
    have hi : i < c.length := (List.getElem?_eq_some_iff.1 hu).1
    rw [List.flatten_cons, Nat.zero_mul, Nat.zero_add, List.getElem?_append_left hi]
    exact hu
  | c :: cs, j + 1, i, l, u, hs, h, hu => by
    have hc := hs c (by simp)
    rw [List.flatten_cons, List.getElem?_append_right (by rw [hc, Nat.succ_mul]; omega), hc, show (j + 1) * sz + i - sz = j * sz + i from by rw [Nat.succ_mul]; omega]
    exact flatten_get (fun x hx => hs x (by simp [hx])) (by simpa using h) hu
/-- The ghost under which all that is there is kept. -/
def gKeep (w : World) (p : Nat) : Gh := ⟨fun n => if n = 0 then some p else none, fun _ _ => none, fun q => if q < w.heap.size then .keep else .free⟩
theorem gKeep_tag {w : World} {p q : Nat} {o : Obj} (h : w.heap[q]? = some o) : (gKeep w p).tag q = .keep := by
  have hlt : q < w.heap.size := (Array.getElem?_eq_some_iff.1 h).1
  simp [gKeep, hlt]
theorem rowK_owns {w : World} {p e sz : Nat} {v : Value} {cs : List (List Value)} (hs : ∀ x ∈ cs, x.length = sz) (h : Owns w e sz v cs.length cs.flatten) : RowK (gKeep w p) w sz v cs := by
  obtain ⟨_, h⟩ := h
  rcases h with ⟨h0, A, rfl⟩ | ⟨g, o, cap, cur, fz, rfl, hcap, hh, hfz, m1, m2, m3, m4⟩
  · have : cs = [] := List.eq_nil_of_length_eq_zero h0
    subst this
    exact ⟨A, 0, rfl, Nat.le_refl _, fun j l hj => by simp at hj⟩
  · refine ⟨_, _, rfl, m1, fun j l hj => ⟨_, rfl, gKeep_tag hh, fun i u hu => ?_⟩⟩
    have h1 := flatten_get hs hj hu
    rw [← m4, List.getElem?_take] at h1
    split at h1
    · rw [List.getElem?_drop, Array.getElem?_toList] at h1
      rw [show (⟨g, o, none⟩ : Addr).add (j * sz + i) = ⟨g, o + (j * sz + i), none⟩ from by unfold Addr.add; split <;> simp_all]
      unfold World.cell?
      simp [hh, h1]
    · cases h1
/-- A list that lies in a row of one's own, or nowhere. -/
def ownOf (e : Nat) (R : Nat → Option (Row τ)) : LV τ → Option (List (τ e))
  | .v (.slice none n c) => bif Nat.beq n 0 && Nat.beq c 0 then some [] else none
  | .own r ver =>
    match R r with
    | some x => bif Nat.beq x.ver ver && !x.fz then (if h : x.e = e then some (castL h x.l) else none) else none
    | none => none
  | _ => none
def rnum : LV τ → Option Nat
  | .own r _ => some r
  | _ => none
theorem ownOf_den {g : Gh} {w : World} {e : Nat} {R : Nat → Option (Row τ)} {c : LV τ} {v : Value} {l : List (τ e)} (hR : ∀ q x, R q = some x → RowD κ g w q x) (hf : (κ e).flat = true) (hv : denL κ g w c v) (h : ownOf e R c = some l) :
    Owns w e (κ e).sz v l.length (l.map (κ e).raw).flatten ∧ ∀ p, ownB v = some p → ∃ r, rnum c = some r ∧ g.tag p = .row r := by
  unfold ownOf at h
  split at h
  · obtain ⟨hc, h⟩ := bif_els h
    injection h with h
    subst h
    simp only [Bool.and_eq_true] at hc
    obtain rfl := beq_eq hc.1
    obtain rfl := beq_eq hc.2
    have hv : v = .slice none 0 0 := hv
    subst hv
    exact ⟨owns_none w _ _ none, fun p hp => by cases hp⟩
  · rename_i r ver
    split at h
    · rename_i x hx
      obtain ⟨hc, h⟩ := bif_els h
      simp only [Bool.and_eq_true, Bool.not_eq_true'] at hc
      split at h
      · rename_i he
        injection h with h
        obtain ⟨v0, ⟨k1, _⟩, k2⟩ := hR _ _ hx
        obtain ⟨hv, _⟩ : g.rv r ver = some v ∧ v.oneCell' = true := hv
        rw [beq_eq hc.1, hv] at k1
        injection k1 with k1
        subst k1
        rw [if_neg (by rw [hc.2]; simp)] at k2
        obtain ⟨inner, i1, i2, i3⟩ := k2
        subst he
        subst h
        have hin := all2_raw hf i1
        subst hin
        exact ⟨i2, fun p hp => ⟨r, rfl, i3 p hp⟩⟩
      · cases h
    · cases h
  · cases h
theorem rawO_eq (o : OpnR) : (κ 45).raw o = rawO o := (kd_raw (kdO (fun _ => True) default o) (by kernel_rfl)).symm
theorem rawI_eq (n : Int) : (κ 3).raw n = rawI n := (kd_raw (kdI (fun _ => True) default n) (by kernel_rfl)).symm
theorem mapO (l : List (τ 45)) : (l.map (κ 45).raw).flatten = List.flatMap rawO (show List OpnR from l) := congrArg (fun f : τ 45 → List Value => (List.map f l).flatten) (funext rawO_eq)
theorem mapI (l : List (τ 3)) : (l.map (κ 3).raw).flatten = List.flatMap rawI (show List Int from l) := congrArg (fun f : τ 3 → List Value => (List.map f l).flatten) (funext rawI_eq)
/-- The account of a block. -/
def accOf (R : Nat → Option (Row τ)) : Option (Blk τ) → Option Acc
  | some (.cells T [c1, c, c2]) =>
    match ownOf 45 R c1, closeI .i64 c, ownOf 3 R c2 with
    | some l1, some n, some l2 => bif Nat.beq T 56 && (match rnum c1, rnum c2 with | some a, some b => !(Nat.beq a b) | _, _ => true) then some (l1, n, l2) else none
    | _, _, _ => none
  | _ => none
theorem closeI_den {g : Gh} {w : World} {k : IntKind} {c : LV τ} {v : Value} {n : Int} (hv : denL κ g w c v) (h : closeI k c = some n) : v = .int k n := by
  unfold closeI at h
  split at h
  · split at h
    · rename_i hk
      injection h with h
      subst h hk
      exact hv
    · cases h
  · cases h
theorem accOf_den {g : Gh} {w : World} {d : Nat} {R : Nat → Option (Row τ)} {b : Option (Blk τ)} {a : Acc} (hR : ∀ q x, R q = some x → RowD κ g w q x) (hb : ∀ x, b = some x → BlkD κ g w d x) (h : accOf R b = some a) :
    ∃ p s1 s2, g.bn d = some p ∧ g.tag p = .blk d ∧ w.heap[p]? = some (.cells #[s1, .int .i64 a.2.1, s2] 56 (0, 0)) ∧ s1.oneCell' = true ∧ s2.oneCell' = true ∧ Owns w 45 3 s1 a.1.length (a.1.flatMap rawO) ∧ Owns w 3 1 s2 a.2.2.length (a.2.2.flatMap rawI) ∧
      (∀ q, ownB s1 = some q → ∃ r, g.tag q = .row r) ∧ (∀ q, ownB s2 = some q → ∃ r, g.tag q = .row r) ∧ ∀ q q', ownB s1 = some q → ownB s2 = some q' → q ≠ q' := by
  unfold accOf at h
  split at h
  · rename_i T c1 c c2
    split at h
    · rename_i l1 n l2 e1 e2 e3
      obtain ⟨hc, h⟩ := bif_els h
      injection h with h
      subst h
      simp only [Bool.and_eq_true] at hc
      obtain rfl := beq_eq hc.1
      obtain ⟨p, vs, j1, j2, j3, j4⟩ := hb _ rfl
      cases j4 with
      | cons a1 j4 =>
      cases j4 with
      | cons a2 j4 =>
      cases j4 with
      | cons a3 j4 =>
      cases j4
      obtain rfl := closeI_den a2.1 e2
      obtain ⟨o1, t1⟩ := ownOf_den (e := 45) hR (by kernel_rfl) a1.1 e1
      obtain ⟨o2, t2⟩ := ownOf_den (e := 3) hR (by kernel_rfl) a3.1 e3
      rw [mapO l1] at o1
      rw [mapI l2] at o2
      refine ⟨p, _, _, j1, j2, j3, a1.2, a3.2, o1, o2, fun q hq => ?_, fun q hq => ?_, fun q q' hq hq' => ?_⟩
      · obtain ⟨r, _, h⟩ := t1 q hq; exact ⟨r, h⟩
      · obtain ⟨r, _, h⟩ := t2 q hq; exact ⟨r, h⟩
      · obtain ⟨r, h1, h2⟩ := t1 q hq
        obtain ⟨r', h3, h4⟩ := t2 q' hq'
        intro e
        subst e
        rw [h2] at h4
        injection h4 with h4
        subst h4
        have hc := hc.2
        rw [h1, h3] at hc
        simp at hc
    · cases h
  · cases h
end Go.Proofs.Ytkbhbiceojmnaaa.E
/-
  Balance, asked while a ledger is open. No condition.
-/
namespace Go.Proofs.Ytkbhbiceojmnaaa.E
open Go
set_option linter.unusedVariables false
set_option linter.unusedSimpArgs false
/-- A world in which only new blocks came to be. -/
theorem chg_new {g : Gh} {w w' : World} (hfree : ∀ p, w.heap.size ≤ p → g.tag p = .free) (h1 : ∀ p, p < w.heap.size → w'.heap[p]? = w.heap[p]?) (h2 : w.heap.size ≤ w'.heap.size) (h3 : w'.os = w.os) (h4 : w'.tape = w.tape) (h5 : w'.output = w.output) (h6 : w.drawn ≤ w'.drawn) :
    Chg g w ⟨g.bn, g.rv, fun q => if w.heap.size ≤ q ∧ q < w'.heap.size then .fgn else g.tag q⟩ w' (fun _ => False) (fun _ => False) := by
  refine ⟨fun _ _ h => h, fun _ _ _ h => h, fun _ _ _ h => h, fun q hq _ _ => ?_, fun q hq => ?_, fun q hq k => ?_, h2, h3, h4, h5, h6⟩
  · have hlt : q < w.heap.size := by
      rcases Nat.lt_or_ge q w.heap.size with h | h
      · exact h
      · exact absurd (hfree q h) hq
    exact ⟨by dsimp only; rw [if_neg (by omega)], h1 q hlt⟩
  · dsimp only
    rw [if_neg (by omega)]
    exact hfree q (by omega)
  · dsimp only
    split
    · simp
    · exact k (by omega)
def balE (c13 : A13 → Option B13) (k : ByteArray) (B : Nat → Option (Blk τ)) (R : Nat → Option (Row τ)) (y : OpL) : Option (Eff τ) :=
  match y.2.2.2 with
  | some l =>
    match accOf R (B l) with
    | some a => some ⟨bif ByteArray.toList y.2.2.1 == ByteArray.toList k then c13 ((k, a), k, ()) else none, fun z => ⟨vl (.int .i64 z.1), [], []⟩⟩
    | none => none
  | none => none
def balH (c13 : A13 → Option B13) (id : Nat) (B : Nat → Option (Blk τ)) (R : Nat → Option (Row τ)) : List (SV τ) → Option (Eff τ)
  | [.c (.lf (.ptr d o)), .c (.lf (.v (.string k)))] =>
    match B d with
    | some (.cells T [.mh m, .v x]) =>
      bif Nat.beq o 0 && Nat.beq T 50 then
        match B m with
        | some (.ob e x ks) => if h : e = 901 then balE c13 k B R (castE h x) else none
        | _ => none
      else none
    | _ => none
  | _ => none
def hkBal (c13 : A13 → Option B13) : Hook τ := ⟨balH c13, by
  intro id B R args E y h
  unfold balH at h
  split at h
  · split at h
    · replace h := bif_els1 h
      obtain ⟨_, h⟩ := h
      split at h
      · split at h
        · unfold balE at h
          split at h
          · split at h
            · injection h with h
              subst h
              exact ⟨(fun p hp => nomatch hp), (fun p hp => nomatch hp)⟩
            · cases h
          · cases h
        · cases h
      · cases h
    · cases h
  · cases h⟩
theorem hkBal_ok : HookOK κ Try.prog (hkBal N13) 13 := by
  intro Z fr g s a w o Q id B R args vals E y h hd hB hR hid ha hrun hE hy
  replace hrun : (execOp a.eval o).run Try.prog w = (callFunc 13 vals.toArray).run Try.prog w := by
    unfold hookRun at hrun
    rw [if_pos (by decide)] at hrun
    exact hrun
  replace hE : balH N13 id B R args = some E := hE
  unfold balH at hE
  split at hE
  · rename_i d q k
    cases ha with
    | cons a1 ha =>
    cases ha with
    | cons a2 ha =>
    cases ha
    obtain ⟨p, hp, rfl⟩ := a1
    obtain rfl := a2
    split at hE
    · rename_i T m x hb
      replace hE := bif_els1 hE
      obtain ⟨hc, hE⟩ := hE
      simp only [Bool.and_eq_true] at hc
      obtain rfl := beq_eq hc.1
      obtain rfl := beq_eq hc.2
      split at hE
      · rename_i e z ks hm
        split at hE
        · rename_i he
          subst he
          replace hE : balE N13 k B R (z : OpL) = some E := hE
          unfold balE at hE
          split at hE
          · rename_i l hl
            split at hE
            · rename_i ac hac
              injection hE with hE
              subst hE
              have hy' : (bif ByteArray.toList (z : OpL).2.2.1 == ByteArray.toList k then N13 ((k, ac), k, ()) else none) = some y := hy
              obtain ⟨hk, hy'⟩ := bif_els hy'
              obtain rfl := strInj hk
              obtain ⟨p', vs, j1, j2, j3, j4⟩ := h.m.blk _ _ (hB _ _ hb)
              rw [hp] at j1
              injection j1 with j1
              subst j1
              cases j4 with
              | cons b1 j4 =>
              cases j4 with
              | cons b2 j4 =>
              cases j4
              obtain ⟨⟨pm, hpm, rfl⟩, _⟩ := b1
              obtain ⟨hL, _⟩ := h.m.blk _ _ (hB _ _ hm)
              have hL : LdO z g w m := hL
              obtain ⟨m', es1, es2, clock, fps1, fps2, k1, k2, k3, k4, k5, k6, k7, k8⟩ := hL
              rw [hpm] at k1
              injection k1 with k1
              subst k1
              simp only [List.map_append, List.mem_append, not_or] at k7
              have hl : (z : OpL).2.2.2 = some l := hl
              rw [hl] at k8
              obtain ⟨en, pk, i1, i2, i3, i4, i5⟩ := k8
              have hf : Instr.findNow .string (.string (z : OpL).2.2.1) (es1 ++ en :: es2) 0 = some (some (0 + es1.length, .pointer (some ⟨pk, 0, none⟩))) := by
                rw [findNow_app 0 (ents_find 0 k2 k7.1)]
                have : ((z : OpL).2.2.1 == (z : OpL).2.2.1) = true := (MapKept.bytes_beq _ _).2 rfl
                simp only [Instr.findNow, i3, Instr.sameNow, this, i4]
              obtain ⟨pk', s1, s2, n1, n2, n3, n4, n5, n6, n7, n8, n9, n10⟩ := accOf_den (d := l) (fun q x hq => h.m.row q x (hR q x hq)) (fun x hx => h.m.blk l x (hB l x hx)) hac
              rw [i5] at n1
              injection n1 with n1
              subst n1
              have hK : LdK ((z : OpL).2.2.1, ac) (gKeep w p) w 0 := by
                refine ⟨p, pm, _, es1 ++ en :: es2, clock, _, pk, s1, s2, rfl, gKeep_tag j3, j3, gKeep_tag i1, i1, hf, gKeep_tag n3, n3, rowK_owns (e := 45) (fun x hx => ?_) ?_, rowK_owns (e := 3) (fun x hx => ?_) ?_⟩
                · obtain ⟨o, _, rfl⟩ := List.mem_map.1 hx; rfl
                · rw [List.length_map]; exact n6
                · obtain ⟨o, _, rfl⟩ := List.mem_map.1 hx; rfl
                · rw [List.length_map]; exact n7
              have hS := s13 (((z : OpL).2.2.1, ac), (z : OpL).2.2.1, ()) y hy' (gKeep w p) w [.pointer (some ⟨p, 0, none⟩), .string (z : OpL).2.2.1] (fun q => by
                  show _ ↔ (if q < w.heap.size then Tag.keep else Tag.free) = .free
                  split
                  · simp; omega
                  · simp; omega) (fun q hq => ⟨by show (if q = 0 then _ else _) = _; rw [if_neg (by omega)], fun _ => rfl⟩) ⟨fun d b e => ?_, fun q r e => by cases e⟩ rfl rfl (fun t v hv => ?_)
              · refine wp_call hrun hS ?_
                rintro v w' ⟨g', vs, hfin, _, rfl, hlen, hres, _⟩
                have hold : ∀ q, q < w.heap.size → w'.heap[q]? = w.heap[q]? := fun q hq => (hfin.old q (.inl (by show (if q < w.heap.size then Tag.keep else Tag.free) = _; rw [if_pos hq]))).2
                have hvs : ∃ u, vs = [u] := by
                  have hlen : vs.length = 1 := hlen
                  match vs, hlen with
                  | [u], _ => exact ⟨u, rfl⟩
                obtain ⟨u, rfl⟩ := hvs
                have hu := hres 0 u rfl
                refine ⟨_, rep_step h (chg_new h.j.free hold hfin.size hfin.os hfin.tape hfin.output hfin.drawn) (v := u) ?_ hd (fun d B e => .inl ⟨e, not_false⟩) (fun d R e => .inl ⟨e, not_false⟩) (Nx.free h id)⟩
                exact hu
              · have e : tab none [(0, some (.ob 903 (show τ 903 from ((z : OpL).2.2.1, ac)) []))] d = some b := e
                by_cases hd0 : d = 0
                · subst hd0
                  rw [tab_cons, if_pos rfl] at e
                  injection e with e
                  subst e
                  exact ⟨hK, fun _ => ldK_ren⟩
                · rw [tab_cons, if_neg hd0] at e
                  cases e
              · match t, hv with
                | 0, hv => injection hv with hv; subst hv; exact ⟨p, rfl, rfl⟩
                | 1, hv => injection hv with hv; subst hv; exact rfl
            · cases hE
          · cases hE
        · cases hE
      · cases hE
    · cases hE
  · cases hE
end Go.Proofs.Ytkbhbiceojmnaaa.E
/-
  A ledger opened at a name: the evaluator's states; what Post and Pay come to. No condition.
-/
namespace Go.Proofs.Ytkbhbiceojmnaaa.E
open Go
set_option linter.unusedVariables false
set_option linter.unusedSimpArgs false
set_option maxRecDepth 100000
abbrev LedOut : Type := MapL × MapL × ByteArray × Option Acc × Int
def opE (s : St τ) (n : Int) (y : OpL) : Option LedOut :=
  match y.2.2.2 with
  | none => some (y.1, y.2.1, y.2.2.1, none, n)
  | some l => match accOf s.r (s.b l) with | some a => some (y.1, y.2.1, y.2.2.1, some a, n) | none => none
def opM (s : St τ) (c : LV τ) : Option (Blk τ) → Option LedOut
  | some (.ob e x ks) => match closeI .i64 c with | some n => if h : e = 901 then opE s n (castE h x) else none | none => none
  | _ => none
/-- What is told of a ledger at the end. -/
def opL (s : St τ) : Option LedOut :=
  match s.b 1 with
  | some (.cells T [.mh m, c]) => bif Nat.beq T 50 && Nat.beq m 3 then opM s c (s.b 3) else none
  | _ => none
def intsS : List (SV τ) → Option (List Int)
  | [] => some []
  | .c (.lf c) :: r => match closeI .i64 c, intsS r with | some a, some l => some (a :: l) | _, _ => none
  | _ => none
/-- The receiver is what it was. -/
def opP (s : St τ) : Bool := match s.t 0 with | .c (.lf (.ptr d o)) => Nat.beq d 1 && Nat.beq o 0 | _ => false
def opQ (xs : List (SV τ)) (s : St τ) : Option (List Int × LedOut) :=
  match intsS xs, opL s with
  | some l, some o => bif opP s then some (l, o) else none
  | _, _ => none
/-- The account is there. -/
def sPres (M1 M2 : MapL) (k : ByteArray) (a : Acc) (n : Int) (args : List (Nat × SV τ)) : St τ :=
  ⟨tab (lf .any) ((0, lf (.ptr 1 0)) :: args), tab none [(1, some (.cells 50 [.mh 3, .v (.int .i64 n)])), (2, some (.cells 56 [.own 1 0, .v (.int .i64 a.2.1), .own 2 0])), (3, some (.ob 901 ((M1, M2, k, some 2) : OpL) [4, 3, 5]))],
    tab none [(1, some ⟨45, a.1, 0, false⟩), (2, some ⟨3, a.2.2, 0, false⟩)], 1000000⟩
/-- It is not. -/
def sAbs (M : MapL) (k : ByteArray) (n : Int) (args : List (Nat × SV τ)) : St τ :=
  ⟨tab (lf .any) ((0, lf (.ptr 1 0)) :: args), tab none [(1, some (.cells 50 [.mh 3, .v (.int .i64 n)])), (3, some (.ob 901 ((M, [], k, none) : OpL) [6]))], tab none [], 1000000⟩
abbrev aPost (k : ByteArray) (num day amt : Int) : List (Nat × SV τ) := [(1, vl (.string k)), (2, vl (.int .i64 num)), (3, vl (.int .i64 day)), (4, vl (.int .i64 amt))]
abbrev aPay (k : ByteArray) (amt : Int) : List (Nat × SV τ) := [(1, vl (.string k)), (2, vl (.int .i64 amt))]
def GPost (c22 : A22 → Option B22) (c25 : A25 → Option B25) (c26 : A26 → Option B26) : Nat → Option (Ct τ) :=
  tabK [(21, hkOf), (1000048, hkMu)] (tabG [(22, ⟨i22, o22, c22, 0⟩), (25, ⟨i25, o25, c25, 0⟩), (26, ⟨i26, o26, c26, 0⟩)])
def GPay (c13 : A13 → Option B13) (c22 : A22 → Option B22) : Nat → Option (Ct τ) :=
  tabK [(21, hkOf), (13, hkBal c13)] (tabG [(22, ⟨i22, o22, c22, 0⟩)])
theorem gPost : GOK κ Try.prog (GPost N22 N25 N26) :=
  gok_hook hkOf_ok (gok_hook hkMu_ok (gok_k0 (gok_cons s22 (keeps0 rfl) (gok_cons s25 (keeps0 rfl) (gok_cons s26 (keeps0 rfl) gok_nil)))))
theorem gPay : GOK κ Try.prog (GPay N13 N22) :=
  gok_hook hkOf_ok (gok_hook hkBal_ok (gok_k0 (gok_cons s22 (keeps0 rfl) gok_nil)))
end Go.Proofs.Ytkbhbiceojmnaaa.E
/-
  What Post and Pay come to on an opened ledger: printed by genLd6.py (an own program). No condition.
-/
namespace Go.Proofs.Ytkbhbiceojmnaaa.E
open Go
set_option linter.unusedVariables false
set_option maxRecDepth 100000
def MPostP (c22 : A22 → Option B22) (c25 : A25 → Option B25) (c26 : A26 → Option B26) : MapL × MapL × ByteArray × Acc × Int × Int × Int × Int → Option (List Int × LedOut) := fun ⟨M1', ⟨M2', ⟨k', ⟨⟨l'_0, ⟨l'_1, l'_2⟩⟩, ⟨cr', ⟨ps', ⟨n', z⟩⟩⟩⟩⟩⟩⟩ => ((bif ByteArray.toList k' == ByteArray.toList k' then some () else none).bind fun () => (let v0 : Int := ↑(ByteArray.size k'); bif decide (v0 < 1) then (some ([250], (M1', (M2', (k', (some (l'_0, l'_1, l'_2), cr')))))) else (bif decide (v0 > 32) then (some ([250], (M1', (M2', (k', (some (l'_0, l'_1, l'_2), cr')))))) else (bif decide (ps' < 1) then (some ([1], (M1', (M2', (k', (some (l'_0, l'_1, l'_2), cr')))))) else ((c25 (l'_2, (ps', ()))).bind fun ⟨y4, ()⟩ => (bif y4 then (some ([1], (M1', (M2', (k', (some (l'_0, l'_1, l'_2), cr')))))) else (bif decide (n' < 0) then (some ([221], (M1', (M2', (k', (some (l'_0, l'_1, l'_2), cr')))))) else (bif decide (n' > 1000000) then (some ([221], (M1', (M2', (k', (some (l'_0, l'_1, l'_2), cr')))))) else (bif decide (z < -1000000000000000) then (some ([260], (M1', (M2', (k', (some (l'_0, l'_1, l'_2), cr')))))) else (bif decide (z > 1000000000000000) then (some ([260], (M1', (M2', (k', (some (l'_0, l'_1, l'_2), cr')))))) else (bif decide (cr' ≥ 4096) then (some ([3], (M1', (M2', (k', (some (l'_0, l'_1, l'_2), cr')))))) else ((bif decide ((List.length l'_2 + 1) * 8 ≤ 210000000000000) then some () else none).bind fun () => (bif decide (z > 0) then ((c26 ((l'_0, (l'_1, (l'_2 ++ [ps'], ()))), ((ps', (n', z)), ()))).bind fun ⟨⟨y13_0, ⟨y13_1, ⟨y13_2, ()⟩⟩⟩, ()⟩ => ((c22 ((y13_0, (y13_1, (y13_2, ()))), ())).bind fun ⟨⟨y14_0, ⟨y14_1, ⟨y14_2, ()⟩⟩⟩, ()⟩ => (let v1 : Int := cr' + 1; let v2 : Int := IntKind.wrap IntKind.i64 v1; some ([0], (M1', (M2', (k', (some (y14_0, y14_1, y14_2), v2)))))))) else (let v1 : Int := l'_1 - z; let v2 : Int := IntKind.wrap IntKind.i64 v1; (c22 ((l'_0, (v2, (l'_2 ++ [ps'], ()))), ())).bind fun ⟨⟨y13_0, ⟨y13_1, ⟨y13_2, ()⟩⟩⟩, ()⟩ => (let v3 : Int := cr' + 1; let v4 : Int := IntKind.wrap IntKind.i64 v3; some ([0], (M1', (M2', (k', (some (y13_0, y13_1, y13_2), v4))))))))))))))))))))
theorem ePostP : ∀ (c22 : A22 → Option B22) (c25 : A25 → Option B25) (c26 : A26 → Option B26) (x : MapL × MapL × ByteArray × Acc × Int × Int × Int × Int), MPostP c22 c25 c26 x = fnX Try.prog κ (GPost c22 c25 c26) (tabL []) Try.f11 (sPres x.1 x.2.1 x.2.2.1 x.2.2.2.1 x.2.2.2.2.1 (aPost x.2.2.1 x.2.2.2.2.2.1 x.2.2.2.2.2.2.1 x.2.2.2.2.2.2.2)) opQ := fun c22 c25 c26 x => by kernel_rfl
def NPostP : MapL × MapL × ByteArray × Acc × Int × Int × Int × Int → Option (List Int × LedOut) := MPostP N22 N25 N26
def MPostA (c22 : A22 → Option B22) (c25 : A25 → Option B25) (c26 : A26 → Option B26) : MapL × ByteArray × Int × Int × Int × Int → Option (List Int × LedOut) := fun ⟨M', ⟨k', ⟨n', ⟨num', ⟨day', z⟩⟩⟩⟩⟩ => ((bif ByteArray.toList k' == ByteArray.toList k' then some () else none).bind fun () => (let v0 : Int := ↑(ByteArray.size k'); bif decide (v0 < 1) then (some ([250], (M', ([], (k', (none, n')))))) else (bif decide (v0 > 32) then (some ([250], (M', ([], (k', (none, n')))))) else (bif decide (num' < 1) then (some ([1], (M', ([], (k', (none, n')))))) else (bif decide (day' < 0) then (some ([221], (M', ([], (k', (none, n')))))) else (bif decide (day' > 1000000) then (some ([221], (M', ([], (k', (none, n')))))) else (bif decide (z < -1000000000000000) then (some ([260], (M', ([], (k', (none, n')))))) else (bif decide (z > 1000000000000000) then (some ([260], (M', ([], (k', (none, n')))))) else (bif decide (n' ≥ 4096) then (some ([3], (M', ([], (k', (none, n')))))) else ((bif ByteArray.toList k' == ByteArray.toList k' then some () else none).bind fun () => (bif decide (z > 0) then ((c26 (([], (0, ([num'], ()))), ((num', (day', z)), ()))).bind fun ⟨⟨y11_0, ⟨y11_1, ⟨y11_2, ()⟩⟩⟩, ()⟩ => ((c22 ((y11_0, (y11_1, (y11_2, ()))), ())).bind fun ⟨⟨y12_0, ⟨y12_1, ⟨y12_2, ()⟩⟩⟩, ()⟩ => (let v1 : Int := n' + 1; let v2 : Int := IntKind.wrap IntKind.i64 v1; some ([0], (M' ++ [], ([], (k', (some (y12_0, y12_1, y12_2), v2)))))))) else (let v1 : Int := 0 - z; let v2 : Int := IntKind.wrap IntKind.i64 v1; (c22 (([], (v2, ([num'], ()))), ())).bind fun ⟨⟨y11_0, ⟨y11_1, ⟨y11_2, ()⟩⟩⟩, ()⟩ => (let v3 : Int := n' + 1; let v4 : Int := IntKind.wrap IntKind.i64 v3; some ([0], (M' ++ [], ([], (k', (some (y11_0, y11_1, y11_2), v4))))))))))))))))))
theorem ePostA : ∀ (c22 : A22 → Option B22) (c25 : A25 → Option B25) (c26 : A26 → Option B26) (x : MapL × ByteArray × Int × Int × Int × Int), MPostA c22 c25 c26 x = fnX Try.prog κ (GPost c22 c25 c26) (tabL []) Try.f11 (sAbs x.1 x.2.1 x.2.2.1 (aPost x.2.1 x.2.2.2.1 x.2.2.2.2.1 x.2.2.2.2.2)) opQ := fun c22 c25 c26 x => by kernel_rfl
def NPostA : MapL × ByteArray × Int × Int × Int × Int → Option (List Int × LedOut) := MPostA N22 N25 N26
def MPayP (c13 : A13 → Option B13) (c22 : A22 → Option B22) : MapL × MapL × ByteArray × Acc × Int × Int → Option (List Int × LedOut) := fun ⟨M1', ⟨M2', ⟨k', ⟨⟨l'_0, ⟨l'_1, l'_2⟩⟩, ⟨cr', z⟩⟩⟩⟩⟩ => ((bif ByteArray.toList k' == ByteArray.toList k' then some () else none).bind fun () => (bif decide (z < 1) then (some ([0, 260], (M1', (M2', (k', (some (l'_0, l'_1, l'_2), cr')))))) else (bif decide (z > 1000000000000000) then (some ([0, 260], (M1', (M2', (k', (some (l'_0, l'_1, l'_2), cr')))))) else ((bif ByteArray.toList k' == ByteArray.toList k' then c13 ((k', l'_0, l'_1, l'_2), k', ()) else none).bind fun ⟨y3_0, ⟨⟨y3_1, ⟨y3_2, ⟨y3_3, y3_4⟩⟩⟩, ()⟩⟩ => (let v0 : Int := z - y3_0; let v1 : Int := IntKind.wrap IntKind.i64 v0; bif decide (v1 > 1000000000000000) then (some ([0, 260], (M1', (M2', (k', (some (l'_0, l'_1, l'_2), cr')))))) else (let v2 : Int := l'_1 + z; let v3 : Int := IntKind.wrap IntKind.i64 v2; (c22 ((l'_0, (v3, (l'_2, ()))), ())).bind fun ⟨⟨y5_0, ⟨y5_1, ⟨y5_2, ()⟩⟩⟩, ()⟩ => (some ([y5_1, 0], (M1', (M2', (k', (some (y5_0, y5_1, y5_2), cr'))))))))))))
theorem ePayP : ∀ (c13 : A13 → Option B13) (c22 : A22 → Option B22) (x : MapL × MapL × ByteArray × Acc × Int × Int), MPayP c13 c22 x = fnX Try.prog κ (GPay c13 c22) (tabL []) Try.f9 (sPres x.1 x.2.1 x.2.2.1 x.2.2.2.1 x.2.2.2.2.1 (aPay x.2.2.1 x.2.2.2.2.2)) opQ := fun c13 c22 x => by kernel_rfl
def NPayP : MapL × MapL × ByteArray × Acc × Int × Int → Option (List Int × LedOut) := MPayP N13 N22
def MPayA (c13 : A13 → Option B13) (c22 : A22 → Option B22) : MapL × ByteArray × Int × Int → Option (List Int × LedOut) := fun ⟨M', ⟨k', ⟨n', z⟩⟩⟩ => ((bif ByteArray.toList k' == ByteArray.toList k' then some () else none).bind fun () => (some ([0, 250], (M', ([], (k', (none, n')))))))
theorem ePayA : ∀ (c13 : A13 → Option B13) (c22 : A22 → Option B22) (x : MapL × ByteArray × Int × Int), MPayA c13 c22 x = fnX Try.prog κ (GPay c13 c22) (tabL []) Try.f9 (sAbs x.1 x.2.1 x.2.2.1 (aPay x.2.1 x.2.2.2)) opQ := fun c13 c22 x => by kernel_rfl
def NPayA : MapL × ByteArray × Int × Int → Option (List Int × LedOut) := MPayA N13 N22
end Go.Proofs.Ytkbhbiceojmnaaa.E
/-
  A ledger opened at a name, and closed again. No condition.
-/
namespace Go.Proofs.Ytkbhbiceojmnaaa.E
open Go
set_option linter.unusedVariables false
set_option linter.unusedSimpArgs false
def joinL (M1 M2 : MapL) (k : ByteArray) : Option Acc → MapL
  | none => M1 ++ M2
  | some a => M1 ++ (k, a) :: M2
/-- A ledger's memory, its blocks counted up. -/
def LedRaw (M : MapL) (n : Int) (w : World) (p : Nat) (FP : List Nat) : Prop :=
  ∃ m es clock fps, w.heap[p]? = some (.cells #[.map (some m), .int .i64 n] 50 (0, 0)) ∧ w.heap[m]? = some (.map (List.toArray es) clock) ∧ Ents w es M fps ∧ (M.map Prod.fst).Nodup ∧ FP = p :: m :: fps ∧ FP.Nodup ∧ Born es clock
theorem perm_mid {α : Type} (p m : α) (A B C : List α) : (p :: m :: (A ++ (B ++ C))).Perm (B ++ (p :: m :: (A ++ C))) := by
  have h1 : (A ++ (B ++ C)).Perm (B ++ (A ++ C)) := by
    rw [← List.append_assoc, ← List.append_assoc]
    exact List.perm_append_comm.append_right C
  exact ((h1.cons m).cons p).trans (((List.perm_middle (a := m) (l₁ := B) (l₂ := A ++ C)).symm.cons p).trans (List.perm_middle (a := p) (l₁ := B) (l₂ := m :: (A ++ C))).symm)
theorem keys_mid {M1 M2 : MapL} {k : ByteArray} {a : Acc} : ((M1 ++ (k, a) :: M2).map Prod.fst).Nodup ↔ ((M1 ++ M2).map Prod.fst).Nodup ∧ k ∉ (M1 ++ M2).map Prod.fst := by
  have hp : ((M1 ++ (k, a) :: M2).map Prod.fst).Perm (k :: (M1 ++ M2).map Prod.fst) := by
    simp
  rw [hp.nodup_iff, List.nodup_cons]
  exact And.comm
theorem opL_close {g : Gh} {w : World} {s : St τ} {M1 M2 : MapL} {k : ByteArray} {oa : Option Acc} {n : Int} (hM : Mm κ g w s.b s.r) (h : opL s = some (M1, M2, k, oa, n)) :
    ∃ p FP, g.bn 1 = some p ∧ LedRaw (joinL M1 M2 k oa) n w p FP ∧ ∀ q ∈ FP, (∃ d, g.tag q = .blk d) ∨ ∃ r, g.tag q = .row r := by
  unfold opL at h
  split at h
  · rename_i T m c hb1
    obtain ⟨hc, h⟩ := bif_els h
    simp only [Bool.and_eq_true] at hc
    obtain rfl := beq_eq hc.1
    obtain rfl := beq_eq hc.2
    unfold opM at h
    split at h
    · rename_i e z ks hb3
      split at h
      · rename_i n' hn'
        split at h
        · rename_i he
          subst he
          replace h : opE s n' (z : OpL) = some (M1, M2, k, oa, n) := h
          obtain ⟨p, vs, j1, j2, j3, j4⟩ := hM.blk _ _ hb1
          cases j4 with
          | cons b1 j4 =>
          cases j4 with
          | cons b2 j4 =>
          cases j4
          obtain ⟨⟨pm, hpm, rfl⟩, _⟩ := b1
          obtain rfl := closeI_den b2.1 hn'
          have hL : LdO z g w 3 := (hM.blk _ _ hb3).1
          obtain ⟨m', es1, es2, clock, fps1, fps2, k1, k2, k3, k4, k5, k6, k7, k8⟩ := hL
          rw [hpm] at k1
          injection k1 with k1
          subst k1
          have hp3 : ∀ q ∈ pm :: (fps1 ++ fps2), q ≠ p := fun q hq e => by
            have := k5 q hq
            rw [e, j2] at this
            cases this
          unfold opE at h
          split at h
          · rename_i hl
            injection h with h
            injection h with h1 h
            injection h with h2 h
            injection h with h3 h
            injection h with h4 h5
            subst h1 h2 h3 h4 h5
            rw [hl] at k8
            refine ⟨p, p :: pm :: (fps1 ++ fps2), j1, ⟨pm, es1 ++ es2, clock, fps1 ++ fps2, j3, k8.1, ents_app k2 k3, k6, rfl, List.nodup_cons.2 ⟨fun hm => hp3 p hm rfl, k4⟩, k8.2⟩, fun q hq => ?_⟩
            rcases List.mem_cons.1 hq with rfl | hq
            · exact .inl ⟨_, j2⟩
            · exact .inl ⟨_, k5 q hq⟩
          · rename_i l hl
            split at h
            · rename_i a hac
              injection h with h
              injection h with h1 h
              injection h with h2 h
              injection h with h3 h
              injection h with h4 h5
              subst h1 h2 h3 h4 h5
              rw [hl] at k8
              obtain ⟨en, pk, i1, i2, i3, i4, i5⟩ := k8
              obtain ⟨pk', s1, s2, n1, n2, n3, n4, n5, n6, n7, n8, n9, n10⟩ := accOf_den (d := l) hM.row (hM.blk l) hac
              rw [i5] at n1
              injection n1 with n1
              subst n1
              have hpp : pk ≠ p := fun e => by rw [e, j3] at n3; injection n3 with n3; injection n3 with _ n3; exact absurd n3 (by decide)
              have hA : AccD w pk a (pk :: ((ownB s1).toList ++ (ownB s2).toList)) := ⟨s1, s2, n3, n4, n5, n6, n7, rfl⟩
              have hE := ents_app k2 (.cons i3 i4 hA k3)
              have hrow : ∀ q ∈ (ownB s1).toList ++ (ownB s2).toList, ∃ r, g.tag q = .row r := fun q hq => by
                rcases List.mem_append.1 hq with hq | hq
                · exact n8 q (Option.mem_toList.1 hq)
                · exact n9 q (Option.mem_toList.1 hq)
              have hpk3 : pk ∉ pm :: (fps1 ++ fps2) := fun hm => by
                have h3 := k5 pk hm
                rw [n2] at h3
                injection h3 with h3
                subst h3
                rw [hpm] at i5
                injection i5 with i5
                subst i5
                rw [i1] at n3
                cases n3
              have hnd : (p :: pm :: (fps1 ++ (pk :: ((ownB s1).toList ++ (ownB s2).toList) ++ fps2))).Nodup := by
                rw [(perm_mid p pm fps1 (pk :: ((ownB s1).toList ++ (ownB s2).toList)) fps2).nodup_iff, List.nodup_append]
                refine ⟨List.nodup_cons.2 ⟨fun hm => ?_, List.nodup_append.2 ⟨by cases ownB s1 <;> simp, by cases ownB s2 <;> simp, fun q hq q' hq' => ?_⟩⟩, List.nodup_cons.2 ⟨fun hm => hp3 p hm rfl, k4⟩, fun q hq q' hq' e => ?_⟩
                · obtain ⟨r, hr⟩ := hrow _ hm
                  rw [n2] at hr
                  cases hr
                · exact n10 q q' (Option.mem_toList.1 hq) (Option.mem_toList.1 hq')
                · subst e
                  have hbq : ∃ d, g.tag q = .blk d := by
                    rcases List.mem_cons.1 hq' with rfl | hq'
                    · exact ⟨_, j2⟩
                    · exact ⟨_, k5 q hq'⟩
                  rcases List.mem_cons.1 hq with rfl | hq
                  · rcases List.mem_cons.1 hq' with h | h
                    · exact hpp h
                    · exact hpk3 h
                  · obtain ⟨r, hr⟩ := hrow q hq
                    obtain ⟨d, hd⟩ := hbq
                    rw [hr] at hd
                    cases hd
              refine ⟨p, _, j1, ⟨pm, es1 ++ en :: es2, clock, _, j3, i1, hE, keys_mid.2 ⟨k6, k7⟩, rfl, hnd, i2⟩, fun q hq => ?_⟩
              have hq := (perm_mid p pm fps1 (pk :: ((ownB s1).toList ++ (ownB s2).toList)) fps2).mem_iff.1 hq
              rcases List.mem_append.1 hq with hq | hq
              · rcases List.mem_cons.1 hq with rfl | hq
                · exact .inl ⟨_, n2⟩
                · exact .inr (hrow q hq)
              · rcases List.mem_cons.1 hq with rfl | hq
                · exact .inl ⟨_, j2⟩
                · exact .inl ⟨_, k5 q hq⟩
            · cases h
        · cases h
      · cases h
    · cases h
  · cases h
end Go.Proofs.Ytkbhbiceojmnaaa.E
/-
  A function run on a ledger that is opened at a name. No condition.
-/
namespace Go.Proofs.Ytkbhbiceojmnaaa.E
open Go
set_option linter.unusedVariables false
set_option linter.unusedSimpArgs false
theorem ents_split {w : World} {k : ByteArray} {a : Acc} {M2 : MapL} : ∀ {M1 : MapL} {es : List MapEntry} {fps : List Nat}, Ents w es (M1 ++ (k, a) :: M2) fps → ∃ es1 e es2 f1 fp f2 pk, es = es1 ++ e :: es2 ∧ fps = f1 ++ (fp ++ f2) ∧ Ents w es1 M1 f1 ∧ Ents w es2 M2 f2 ∧ e.key = .string k ∧ e.val = .pointer (some ⟨pk, 0, none⟩) ∧ AccD w pk a fp
  | [], es, fps, h => by
    cases h with
    | cons h1 h2 h3 h4 => exact ⟨[], _, _, [], _, _, _, rfl, rfl, .nil, h4, h1, h2, h3⟩
  | x :: M1, es, fps, h => by
    cases h with
    | cons h1 h2 h3 h4 =>
      obtain ⟨es1, e, es2, f1, fp, f2, pk, rfl, rfl, k1, k2, k3, k4, k5⟩ := ents_split h4
      exact ⟨_ :: es1, e, es2, _ ++ f1, fp, f2, pk, rfl, by rw [List.append_assoc], .cons h1 h2 h3 k1, k2, k3, k4, k5⟩
def findM (k : ByteArray) : MapL → Option (MapL × Acc × MapL)
  | [] => none
  | x :: M => bif ByteArray.toList x.1 == ByteArray.toList k then some ([], x.2, M) else match findM k M with | some y => some (x :: y.1, y.2.1, y.2.2) | none => none
theorem findM_some {k : ByteArray} : ∀ {M : MapL} {y : MapL × Acc × MapL}, findM k M = some y → M = y.1 ++ (k, y.2.1) :: y.2.2
  | [], y, h => by cases h
  | x :: M, y, h => by
    simp only [findM] at h
    cases hc : ByteArray.toList x.1 == ByteArray.toList k with
    | true =>
      rw [hc, cond_true] at h
      injection h with h
      subst h
      rw [← strInj hc]
      rfl
    | false =>
      rw [hc, cond_false] at h
      split at h
      · rename_i z hz
        injection h with h
        subst h
        rw [findM_some hz]
        rfl
      · cases h
theorem findM_none {k : ByteArray} : ∀ {M : MapL}, findM k M = none → k ∉ M.map Prod.fst
  | [], _ => by simp
  | x :: M, h => by
    simp only [findM] at h
    cases hc : ByteArray.toList x.1 == ByteArray.toList k with
    | true => rw [hc] at h; cases h
    | false =>
      rw [hc, cond_false] at h
      split at h
      · cases h
      · rename_i hz
        simp only [List.map_cons, List.mem_cons, not_or]
        refine ⟨fun e => ?_, findM_none hz⟩
        rw [e] at hc
        simp at hc
def fgnT : Tag → Tag
  | .blk _ => .fgn
  | .row _ => .fgn
  | t => t
/-- The ghost of an opened ledger. -/
def gOpen (g0 : Gh) (p m : Nat) (pk : Option Nat) (s1 s2 : Value) (F3 : List Nat) : Gh :=
  ⟨fun n => if n = 1 then some p else if n = 2 then pk else if n = 3 then some m else none,
   fun r v => if r = 1 ∧ v = 0 then some s1 else if r = 2 ∧ v = 0 then some s2 else none,
   fun q => if q = p then .blk 1 else if pk = some q then .blk 2 else if ownB s1 = some q then .row 1 else if ownB s2 = some q then .row 2 else if q ∈ F3 then .blk 3 else fgnT (g0.tag q)⟩
section
variable {g0 : Gh} {w : World} {p m : Nat} {pk : Option Nat} {s1 s2 : Value} {F3 : List Nat}
theorem gOpen_free (hfree : ∀ q, w.heap.size ≤ q ↔ g0.tag q = .free) (hp : p < w.heap.size) (hk : ∀ q, pk = some q → q < w.heap.size) (h1 : ∀ q, ownB s1 = some q → q < w.heap.size) (h2 : ∀ q, ownB s2 = some q → q < w.heap.size) (h3 : ∀ q ∈ F3, q < w.heap.size) (q : Nat) : w.heap.size ≤ q ↔ (gOpen g0 p m pk s1 s2 F3).tag q = .free := by
  show _ ↔ (if q = p then Tag.blk 1 else if pk = some q then Tag.blk 2 else if ownB s1 = some q then Tag.row 1 else if ownB s2 = some q then Tag.row 2 else if q ∈ F3 then Tag.blk 3 else fgnT (g0.tag q)) = .free
  constructor
  · intro h
    rw [if_neg (by omega), if_neg (fun e => by have := hk q e; omega), if_neg (fun e => by have := h1 q e; omega), if_neg (fun e => by have := h2 q e; omega), if_neg (fun e => by have := h3 q e; omega), (hfree q).1 h]
    rfl
  · intro h
    split at h
    · cases h
    · split at h
      · cases h
      · split at h
        · cases h
        · split at h
          · cases h
          · split at h
            · cases h
            · refine (hfree q).2 ?_
              cases e : g0.tag q <;> rw [e] at h <;> first | rfl | cases h
theorem gOpen_old (FP : List Nat) (hT : ∀ q ∈ FP, g0.tag q = .blk 0) (hp : p ∈ FP) (hk : ∀ q, pk = some q → q ∈ FP) (h1 : ∀ q, ownB s1 = some q → q ∈ FP) (h2 : ∀ q, ownB s2 = some q → q ∈ FP) (h3 : ∀ q ∈ F3, q ∈ FP) (q : Nat) (h : g0.tag q = .keep ∨ g0.tag q = .fgn) : (gOpen g0 p m pk s1 s2 F3).tag q = g0.tag q := by
  have hn : q ∉ FP := fun hq => by rw [hT q hq] at h; rcases h with h | h <;> cases h
  show (if q = p then Tag.blk 1 else if pk = some q then Tag.blk 2 else if ownB s1 = some q then Tag.row 1 else if ownB s2 = some q then Tag.row 2 else if q ∈ F3 then Tag.blk 3 else fgnT (g0.tag q)) = _
  rw [if_neg (fun e : q = p => hn (by rw [e]; exact hp)), if_neg (fun e => hn (hk q e)), if_neg (fun e => hn (h1 q e)), if_neg (fun e => hn (h2 q e)), if_neg (fun e => hn (h3 q e))]
  rcases h with h | h <;> rw [h] <;> rfl
end
/-- What is left of a ledger that was open. -/
theorem op_done {g0 g1 g' : Gh} {w w' : World} {s' : St τ} {p : Nat} {M1 M2 : MapL} {k : ByteArray} {oa : Option Acc} {n : Int} (h0 : ∀ q, g0.tag q = .keep ∨ g0.tag q = .fgn → g1.tag q = g0.tag q) (hM : Mm κ g' w' s'.b s'.r)
    (hfree : ∀ q, w'.heap.size ≤ q → g'.tag q = .free) (hold : ∀ q, g1.tag q = .keep ∨ g1.tag q = .fgn → g'.tag q = g1.tag q ∧ w'.heap[q]? = w.heap[q]?) (hsize : w.heap.size ≤ w'.heap.size) (hos : w'.os = w.os) (htape : w'.tape = w.tape) (hout : w'.output = w.output) (hdr : w.drawn ≤ w'.drawn)
    (hL : opL s' = some (M1, M2, k, oa, n)) (hP : opP s' = true) (hptr : denS κ g' w' (s'.t 0) (.pointer (some ⟨p, 0, none⟩))) : ∃ gN, Fin g0 w gN w' ∧ gN.bn 0 = some p ∧ LedD (joinL M1 M2 k oa, n) gN w' 0 := by
  obtain ⟨p', FP, c1, c2, c3⟩ := opL_close hM hL
  have hpp : p' = p := by
    unfold opP at hP
    split at hP
    · rename_i d o e
      simp only [Bool.and_eq_true] at hP
      obtain rfl := beq_eq hP.1
      obtain rfl := beq_eq hP.2
      rw [e] at hptr
      obtain ⟨q, q1, q2⟩ := hptr
      rw [c1] at q1
      injection q1 with q1
      subst q1
      injection q2 with q2
      injection q2 with q2
      injection q2 with q2 _
      exact q2.symm
    · cases hP
  subst hpp
  obtain ⟨m, es, clock, fps, d1, d2, d3, d4, rfl, d6, d7⟩ := c2
  refine ⟨⟨fun q => if q = 0 then some p' else none, fun _ _ => none, fun q => if q ∈ p' :: m :: fps then .blk 0 else fgnT (g'.tag q)⟩, ⟨fun q hq => ?_, fun q hq => ?_, hsize, hos, htape, hout, hdr⟩, rfl, ?_⟩
  · have e1 := h0 q hq
    obtain ⟨e2, e3⟩ := hold q (by rw [e1]; exact hq)
    refine ⟨?_, e3⟩
    have hn : q ∉ p' :: m :: fps := fun hm => by
      rcases c3 q hm with ⟨d, hd⟩ | ⟨r, hr⟩
      · rw [e2, e1] at hd; rw [hd] at hq; rcases hq with h | h <;> cases h
      · rw [e2, e1] at hr; rw [hr] at hq; rcases hq with h | h <;> cases h
    dsimp only
    rw [if_neg hn, e2, e1]
    rcases hq with h | h <;> rw [h] <;> rfl
  · have hn : q ∉ p' :: m :: fps := fun hm => by
      have := hfree q hq
      rcases c3 q hm with ⟨d, hd⟩ | ⟨r, hr⟩
      · rw [this] at hd; cases hd
      · rw [this] at hr; cases hr
    dsimp only
    rw [if_neg hn, hfree q hq]
    rfl
  · exact ⟨p', m, es, clock, fps, rfl, d1, d2, d3, d4, d6, fun q hq => by dsimp only; rw [if_pos hq], d7⟩
theorem intsS_den {g : Gh} {w : World} : ∀ {xs : List (SV τ)} {vs : List Value} {l : List Int}, All2 (denS κ g w) xs vs → intsS xs = some l → vs = l.map (Value.int .i64)
  | [], _, l, h, e => by
    cases h
    injection e with e
    subst e
    rfl
  | x :: r, _, l, h, e => by
    cases h with
    | cons h1 h2 =>
      unfold intsS at e
      split at e
      · rename_i h0; cases h0
      · rename_i c r' hx
        injection hx with hx1 hx2
        subst hx1 hx2
        split at e
        · rename_i a l' e1 e2
          injection e with e
          subst e
          rw [intsS_den h2 e2, List.map_cons, closeI_den h1 e1]
        · cases e
      · cases e
end Go.Proofs.Ytkbhbiceojmnaaa.E
/-
  A function run on a ledger that is opened at a name: joined. No condition.
-/
namespace Go.Proofs.Ytkbhbiceojmnaaa.E
open Go
set_option linter.unusedVariables false
set_option linter.unusedSimpArgs false
/-- What a run on an opened ledger comes to. -/
noncomputable def opRun (Γ : Nat → Option (Ct τ)) (F : Func) (M : MapL) (n : Int) (k : ByteArray) (args : List (Nat × SV τ)) : Option (List Int × LedOut) :=
  match findM k M with
  | some y => fnX Try.prog κ Γ (tabL []) F (sPres y.1 y.2.2 k y.2.1 n args) opQ
  | none => fnX Try.prog κ Γ (tabL []) F (sAbs M k n args) opQ
theorem opQ_inv {xs : List (SV τ)} {s : St τ} {l : List Int} {o : LedOut} (h : opQ xs s = some (l, o)) : intsS xs = some l ∧ opL s = some o ∧ opP s = true := by
  unfold opQ at h
  split at h
  · rename_i l' o' h1 h2
    obtain ⟨h3, h⟩ := bif_els h
    injection h with h
    injection h with e1 e2
    subst e1 e2
    exact ⟨h1, h2, h3⟩
  · cases h
theorem op_core {f : Nat} {F : Func} {code : Code} {Γ : Nat → Option (Ct τ)} (hΓ : GOK κ Try.prog Γ) (hf : Try.prog.funcs[f]? = some F) (hn : (F.name == "runtime.NumGoroutine") = false) (hb : F.body = some code) (hd : dsts F.ntmps [0] code = true) {M : MapL} {n : Int} {k : ByteArray} {args : List (Nat × SV τ)} {l : List Int} {o : LedOut} {g0 : Gh} {w : World} {p : Nat} {vals : List Value}
    (hfree : ∀ q, w.heap.size ≤ q ↔ g0.tag q = .free) (hbn : g0.bn 0 = some p) (hL : LedD (M, n) g0 w 0) (hargs : ∀ g t, denS κ g w (tab (lf .any) ((0, lf .any) :: args) t) ((.pointer (some ⟨p, 0, none⟩) :: vals).getD t undef)) (hE : opRun Γ F M n k args = some (l, o)) :
    Calls Try.prog f (.pointer (some ⟨p, 0, none⟩) :: vals).toArray w fun e w' => e = .returned (valOf (l.map (Value.int .i64))) ∧ ∃ gN, Fin g0 w gN w' ∧ gN.bn 0 = some p ∧ LedD (joinL o.1 o.2.1 o.2.2.1 o.2.2.2.1, o.2.2.2.2) gN w' 0 := by
  obtain ⟨p', m, es, clock, fps, b1, b2, b3, b4, b5, b6, b7, b8⟩ := hL
  rw [hbn] at b1
  injection b1 with b1
  subst b1
  have lt : ∀ {q : Nat} {ob : Obj}, w.heap[q]? = some ob → q < w.heap.size := fun h => (Array.getElem?_eq_some_iff.1 h).1
  have inFP : ∀ q ∈ p :: m :: fps, q < w.heap.size := fun q hq => by
    rcases Nat.lt_or_ge q w.heap.size with h | h
    · exact h
    · have := (hfree q).1 h
      rw [b7 q hq] at this
      cases this
  have fin : ∀ {g1 : Gh} {s0 : St τ}, (∀ q, g0.tag q = .keep ∨ g0.tag q = .fgn → g1.tag q = g0.tag q) → (∀ q, w.heap.size ≤ q ↔ g1.tag q = .free) → (∀ q, s0.n ≤ q → g1.bn q = none ∧ ∀ n, g1.rv q n = none) → Mm κ g1 w s0.b s0.r → s0.t = tab (lf .any) ((0, lf (.ptr 1 0)) :: args) → g1.bn 1 = some p → fnX Try.prog κ Γ (tabL []) F s0 opQ = some (l, o) →
      Calls Try.prog f (.pointer (some ⟨p, 0, none⟩) :: vals).toArray w fun e w' => e = .returned (valOf (l.map (Value.int .i64))) ∧ ∃ gN, Fin g0 w gN w' ∧ gN.bn 0 = some p ∧ LedD (joinL o.1 o.2.1 o.2.2.1 o.2.2.2.1, o.2.2.2.2) gN w' 0 := by
    intro g1 s0 h0 h1 h2 h3 ht hb1 h4
    have hr := fn_run (P := Try.prog) (S := tabL []) (by kernel_rfl) hΓ hf hn hb [0] hd (fun Z _ _ q _ C hC => by cases hC) h4 h1 h2 h3 (vals := .pointer (some ⟨p, 0, none⟩) :: vals) (fun t => by
      rw [ht]
      by_cases e : t = 0
      · subst e
        rw [tab_cons, if_pos rfl]
        exact ⟨p, hb1, rfl⟩
      · have := hargs g1 t
        rw [tab_cons, if_neg e] at this ⊢
        exact this)
    refine hr.mono ?_
    rintro e w' ⟨g', s', xs, vs, r1, r2, r3, r4, r5, r6, r7, r8, r9, r10, r11, r12, r13⟩
    obtain ⟨q1, q2, q3⟩ := opQ_inv r1
    obtain ⟨M1, M2, k', oa, n'⟩ := o
    refine ⟨by rw [r3, intsS_den r2 q1], ?_⟩
    exact op_done h0 r4 r5 r7 r8 r9 r10 r11 r12 q2 q3 (r13 0 _ (by simp) rfl)
  unfold opRun at hE
  split at hE
  · rename_i y hy
    obtain ⟨M1, a, M2⟩ := y
    have hM := findM_some hy
    simp only at hM hE
    subst hM
    obtain ⟨es1, e, es2, f1, fp, f2, pk, rfl, rfl, k1, k2, k3, k4, s1, s2, i1, i2, i3, i4, i5, rfl⟩ := ents_split b4
    have hperm := perm_mid p m f1 (pk :: ((ownB s1).toList ++ (ownB s2).toList)) f2
    have hnd := hperm.nodup_iff.1 b6
    obtain ⟨hn1, hn2, hn3⟩ := List.nodup_append.1 hnd
    have hmem : ∀ q, q ∈ p :: m :: (f1 ++ (pk :: ((ownB s1).toList ++ (ownB s2).toList) ++ f2)) ↔ q ∈ pk :: ((ownB s1).toList ++ (ownB s2).toList) ∨ q ∈ p :: m :: (f1 ++ f2) := fun q => by rw [hperm.mem_iff, List.mem_append]
    have o1 : ∀ q, ownB s1 = some q → q ∈ pk :: ((ownB s1).toList ++ (ownB s2).toList) := fun q hq => List.mem_cons_of_mem _ (List.mem_append_left _ (Option.mem_toList.2 hq))
    have o2 : ∀ q, ownB s2 = some q → q ∈ pk :: ((ownB s1).toList ++ (ownB s2).toList) := fun q hq => List.mem_cons_of_mem _ (List.mem_append_right _ (Option.mem_toList.2 hq))
    have hpk : pk ≠ p := hn3 pk (by simp) p (by simp)
    have h13 := List.nodup_cons.1 hn1
    have h12 := (List.nodup_append.1 h13.2).2.2
    have hb1 : ∀ q, ownB s1 = some q → q ≠ p ∧ q ≠ pk := fun q hq => ⟨hn3 q (o1 q hq) p (by simp), fun e => h13.1 (by rw [← e]; exact List.mem_append_left _ (Option.mem_toList.2 hq))⟩
    have hb2 : ∀ q, ownB s2 = some q → q ≠ p ∧ q ≠ pk ∧ ownB s1 ≠ some q := fun q hq => ⟨hn3 q (o2 q hq) p (by simp), fun e => h13.1 (by rw [← e]; exact List.mem_append_right _ (Option.mem_toList.2 hq)), fun e => h12 q (Option.mem_toList.2 e) q (Option.mem_toList.2 hq) rfl⟩
    have hF3 : ∀ q ∈ m :: (f1 ++ f2), q ≠ p ∧ q ≠ pk ∧ ownB s1 ≠ some q ∧ ownB s2 ≠ some q := fun q hq => ⟨fun e => (List.nodup_cons.1 hn2).1 (e ▸ hq), fun e => hn3 pk (by simp) q (List.mem_cons_of_mem _ hq) e.symm, fun e => hn3 q (o1 q e) q (List.mem_cons_of_mem _ hq) rfl, fun e => hn3 q (o2 q e) q (List.mem_cons_of_mem _ hq) rfl⟩
    have kk := keys_mid.1 b5
    have t3 : ∀ q ∈ m :: (f1 ++ f2), (gOpen g0 p m (some pk) s1 s2 (m :: (f1 ++ f2))).tag q = .blk 3 := fun q hq => by
      obtain ⟨z1, z2, z3, z4⟩ := hF3 q hq
      show (if q = p then Tag.blk 1 else if some pk = some q then Tag.blk 2 else if ownB s1 = some q then Tag.row 1 else if ownB s2 = some q then Tag.row 2 else if q ∈ m :: (f1 ++ f2) then Tag.blk 3 else fgnT (g0.tag q)) = _
      rw [if_neg z1, if_neg (fun e => z2 (Option.some.inj e).symm), if_neg z3, if_neg z4, if_pos hq]
    have t1 : ∀ q, ownB s1 = some q → (gOpen g0 p m (some pk) s1 s2 (m :: (f1 ++ f2))).tag q = .row 1 := fun q hq => by
      show (if q = p then Tag.blk 1 else if some pk = some q then Tag.blk 2 else if ownB s1 = some q then Tag.row 1 else if ownB s2 = some q then Tag.row 2 else if q ∈ m :: (f1 ++ f2) then Tag.blk 3 else fgnT (g0.tag q)) = _
      rw [if_neg (hb1 q hq).1, if_neg (fun e => (hb1 q hq).2 (Option.some.inj e).symm), if_pos hq]
    have t2 : ∀ q, ownB s2 = some q → (gOpen g0 p m (some pk) s1 s2 (m :: (f1 ++ f2))).tag q = .row 2 := fun q hq => by
      show (if q = p then Tag.blk 1 else if some pk = some q then Tag.blk 2 else if ownB s1 = some q then Tag.row 1 else if ownB s2 = some q then Tag.row 2 else if q ∈ m :: (f1 ++ f2) then Tag.blk 3 else fgnT (g0.tag q)) = _
      rw [if_neg (hb2 q hq).1, if_neg (fun e => (hb2 q hq).2.1 (Option.some.inj e).symm), if_neg (hb2 q hq).2.2, if_pos hq]
    have tp : (gOpen g0 p m (some pk) s1 s2 (m :: (f1 ++ f2))).tag p = .blk 1 := if_pos rfl
    have tk : (gOpen g0 p m (some pk) s1 s2 (m :: (f1 ++ f2))).tag pk = .blk 2 := by
      show (if pk = p then Tag.blk 1 else if some pk = some pk then Tag.blk 2 else _) = _
      rw [if_neg hpk, if_pos rfl]
    refine fin (g1 := gOpen g0 p m (some pk) s1 s2 (m :: (f1 ++ f2))) (gOpen_old _ b7 (by simp) (fun q e => (hmem q).2 (.inl (by rw [← Option.some.inj e]; simp))) (fun q e => (hmem q).2 (.inl (o1 q e))) (fun q e => (hmem q).2 (.inl (o2 q e))) (fun q e => (hmem q).2 (.inr (List.mem_cons_of_mem _ e)))) (gOpen_free hfree (lt b2) (fun q e => inFP q ((hmem q).2 (.inl (by rw [← Option.some.inj e]; simp)))) (fun q e => inFP q ((hmem q).2 (.inl (o1 q e)))) (fun q e => inFP q ((hmem q).2 (.inl (o2 q e)))) (fun q e => inFP q ((hmem q).2 (.inr (List.mem_cons_of_mem _ e))))) (fun q hq => ?_) ⟨fun d b e => ?_, fun q r e => ?_⟩ rfl rfl hE
    · have hq : 1000000 ≤ q := hq
      refine ⟨?_, fun n => ?_⟩
      · show (if q = 1 then some p else if q = 2 then some pk else if q = 3 then some m else none) = none
        rw [if_neg (by omega), if_neg (by omega), if_neg (by omega)]
      · show (if q = 1 ∧ n = 0 then some s1 else if q = 2 ∧ n = 0 then some s2 else none) = none
        rw [if_neg (by omega), if_neg (by omega)]
    · have e : tab none [(1, some (.cells 50 [.mh 3, .v (.int .i64 n)])), (2, some (.cells 56 [.own 1 0, .v (.int .i64 a.2.1), .own 2 0])), (3, some (.ob 901 ((M1, M2, k, some 2) : OpL) [4, 3, 5]))] d = some b := e
      by_cases e1 : d = 1
      · subst e1
        rw [tab_cons, if_pos rfl] at e
        injection e with e
        subst e
        exact ⟨p, [.map (some m), .int .i64 n], rfl, tp, b2, .cons ⟨⟨m, rfl, rfl⟩, rfl⟩ (.cons ⟨rfl, rfl⟩ .nil)⟩
      · rw [tab_cons, if_neg e1] at e
        by_cases e2 : d = 2
        · subst e2
          rw [tab_cons, if_pos rfl] at e
          injection e with e
          subst e
          exact ⟨pk, [s1, .int .i64 a.2.1, s2], rfl, tk, i1, .cons ⟨⟨rfl, i2⟩, i2⟩ (.cons ⟨rfl, rfl⟩ (.cons ⟨⟨rfl, i3⟩, i3⟩ .nil))⟩
        · rw [tab_cons, if_neg e2] at e
          by_cases e3 : d = 3
          · subst e3
            rw [tab_cons, if_pos rfl] at e
            injection e with e
            subst e
            exact ⟨⟨m, es1, es2, clock, f1, f2, rfl, k1, k2, (List.nodup_cons.1 hn2).2, t3, kk.1, kk.2, ‹MapEntry›, pk, b3, b8, k3, k4, rfl⟩, fun h => by cases h⟩
          · rw [tab_cons, if_neg e3] at e
            cases e
    · have e : tab none [(1, some (⟨45, a.1, 0, false⟩ : Row τ)), (2, some ⟨3, a.2.2, 0, false⟩)] q = some r := e
      by_cases e1 : q = 1
      · subst e1
        rw [tab_cons, if_pos rfl] at e
        injection e with e
        subst e
        refine ⟨s1, ⟨rfl, fun n hn => ?_⟩, ?_⟩
        · show (if 1 = 1 ∧ n = 0 then some s1 else if 1 = 2 ∧ n = 0 then some s2 else none) = none
          have hn : 0 < n := hn
          rw [if_neg (by omega), if_neg (by omega)]
        · rw [if_neg (by simp)]
          refine ⟨_, raw_all2 (by kernel_rfl : (κ 45).flat = true) _, ?_, t1⟩
          rw [mapO]
          exact i4
      · rw [tab_cons, if_neg e1] at e
        by_cases e2 : q = 2
        · subst e2
          rw [tab_cons, if_pos rfl] at e
          injection e with e
          subst e
          refine ⟨s2, ⟨rfl, fun n hn => ?_⟩, ?_⟩
          · show (if 2 = 1 ∧ n = 0 then some s1 else if 2 = 2 ∧ n = 0 then some s2 else none) = none
            have hn : 0 < n := hn
            rw [if_neg (by omega), if_neg (by omega)]
          · rw [if_neg (by simp)]
            refine ⟨_, raw_all2 (by kernel_rfl : (κ 3).flat = true) _, ?_, t2⟩
            rw [mapI]
            exact i5
        · rw [tab_cons, if_neg e2] at e
          cases e
  · rename_i hy
    have hM := findM_none hy
    have hnd := List.nodup_cons.1 b6
    have nob : ownB (.slice none 0 0) = none := rfl
    have t3 : ∀ q ∈ m :: fps, (gOpen g0 p m none (.slice none 0 0) (.slice none 0 0) (m :: fps)).tag q = .blk 3 := fun q hq => by
      show (if q = p then Tag.blk 1 else if none = some q then Tag.blk 2 else if ownB (.slice none 0 0) = some q then Tag.row 1 else if ownB (.slice none 0 0) = some q then Tag.row 2 else if q ∈ m :: fps then Tag.blk 3 else fgnT (g0.tag q)) = _
      rw [if_neg (fun e : q = p => hnd.1 (by rw [← e]; exact hq)), if_neg (fun e => by cases e), nob, if_neg (fun e => by cases e), if_neg (fun e => by cases e), if_pos hq]
    have tp : (gOpen g0 p m none (.slice none 0 0) (.slice none 0 0) (m :: fps)).tag p = .blk 1 := if_pos rfl
    refine fin (g1 := gOpen g0 p m none (.slice none 0 0) (.slice none 0 0) (m :: fps)) (gOpen_old _ b7 (by simp) (fun q e => by cases e) (fun q e => by cases e) (fun q e => by cases e) (fun q e => List.mem_cons_of_mem _ e)) (gOpen_free hfree (lt b2) (fun q e => by cases e) (fun q e => by cases e) (fun q e => by cases e) (fun q e => inFP q (List.mem_cons_of_mem _ e))) (fun q hq => ?_) ⟨fun d b e => ?_, fun q r e => by cases e⟩ rfl rfl hE
    · have hq : 1000000 ≤ q := hq
      refine ⟨?_, fun n => ?_⟩
      · show (if q = 1 then some p else if q = 2 then none else if q = 3 then some m else none) = none
        rw [if_neg (by omega), if_neg (by omega), if_neg (by omega)]
      · show (if q = 1 ∧ n = 0 then some _ else if q = 2 ∧ n = 0 then some _ else none) = none
        rw [if_neg (by omega), if_neg (by omega)]
    · have e : tab none [(1, some (.cells 50 [.mh 3, .v (.int .i64 n)])), (3, some (.ob 901 ((M, [], k, none) : OpL) [6]))] d = some b := e
      by_cases e1 : d = 1
      · subst e1
        rw [tab_cons, if_pos rfl] at e
        injection e with e
        subst e
        exact ⟨p, [.map (some m), .int .i64 n], rfl, tp, b2, .cons ⟨⟨m, rfl, rfl⟩, rfl⟩ (.cons ⟨rfl, rfl⟩ .nil)⟩
      · rw [tab_cons, if_neg e1] at e
        by_cases e3 : d = 3
        · subst e3
          rw [tab_cons, if_pos rfl] at e
          injection e with e
          subst e
          refine ⟨⟨m, es, [], clock, fps, [], rfl, b4, .nil, by simpa using hnd.2, by simpa using t3, by simpa using b5, by simpa using hM, ?_⟩, fun h => by cases h⟩
          exact ⟨by simpa using b3, by simpa using b8⟩
        · rw [tab_cons, if_neg e3] at e
          cases e
end Go.Proofs.Ytkbhbiceojmnaaa.E
/-
  The contracts of Post, Pay, Balance and Open on a whole ledger. No condition.
-/
namespace Go.Proofs.Ytkbhbiceojmnaaa.E
open Go
set_option linter.unusedVariables false
set_option linter.unusedSimpArgs false
set_option maxRecDepth 100000
abbrev TL : Type := MapL × Int
def outL (o : LedOut) : TL := (joinL o.1 o.2.1 o.2.2.1 o.2.2.2.1, o.2.2.2.2)
def res1 : Option (List Int × LedOut) → Option (Int × TL × Unit)
  | some ([e], o) => some (e, outL o, ())
  | _ => none
def res2 : Option (List Int × LedOut) → Option (Int × Int × TL × Unit)
  | some ([a, e], o) => some (a, e, outL o, ())
  | _ => none
def runPost (x : TL × ByteArray × Int × Int × Int × Unit) : Option (List Int × LedOut) :=
  match findM x.2.1 x.1.1 with
  | some y => NPostP (y.1, y.2.2, x.2.1, y.2.1, x.1.2, x.2.2.1, x.2.2.2.1, x.2.2.2.2.1)
  | none => NPostA (x.1.1, x.2.1, x.1.2, x.2.2.1, x.2.2.2.1, x.2.2.2.2.1)
def fPost (x : TL × ByteArray × Int × Int × Int × Unit) : Option (Int × TL × Unit) := res1 (runPost x)
def runPay (x : TL × ByteArray × Int × Unit) : Option (List Int × LedOut) :=
  match findM x.2.1 x.1.1 with
  | some y => NPayP (y.1, y.2.2, x.2.1, y.2.1, x.1.2, x.2.2.1)
  | none => NPayA (x.1.1, x.2.1, x.1.2, x.2.2.1)
def fPay (x : TL × ByteArray × Int × Unit) : Option (Int × Int × TL × Unit) := res2 (runPay x)
def iPost : Fr τ (T900 × ByteArray × Int × Int × Int × Unit) := .ob 0 900 (.val 1 .str (.val 2 (.int .i64) (.val 3 (.int .i64) (.val 4 (.int .i64) .nil))))
def oPost : Fr τ (Int × T900 × Unit) := .val 1000 (.int .i64) (.ob 0 900 .nil)
def cPost : Ctr τ := ⟨iPost, oPost, fPost, 0⟩
def iPay : Fr τ (T900 × ByteArray × Int × Unit) := .ob 0 900 (.val 1 .str (.val 2 (.int .i64) .nil))
def oPay : Fr τ (Int × Int × T900 × Unit) := .val 1000 (.int .i64) (.val 1001 (.int .i64) (.ob 0 900 .nil))
def cPay : Ctr τ := ⟨iPay, oPay, fPay, 0⟩
theorem led_blk {g0 : Gh} {w : World} {x : TL} {b : Nat → Option (Blk τ)} {r : Nat → Option (Row τ)} (hM : Mm κ g0 w b r) (hb : b 0 = some (.ob 900 x [])) : LedD x g0 w 0 := (hM.blk 0 _ hb).1
theorem mm_led {gN : Gh} {w' : World} {x : TL} (h : LedD x gN w' 0) : ∀ d b, tab none [(0, some (Blk.ob (τ := τ) 900 x []))] d = some b → BlkD κ gN w' d b := fun d b e => by
  by_cases e1 : d = 0
  · subst e1
    rw [tab_cons, if_pos rfl] at e
    injection e with e
    subst e
    exact ⟨h, fun _ => ledD_ren⟩
  · rw [tab_cons, if_neg e1] at e
    cases e
theorem runPost_op (M : MapL) (n : Int) (k : ByteArray) (num day amt : Int) : runPost ((M, n), k, num, day, amt, ()) = opRun (GPost N22 N25 N26) Try.f11 M n k (aPost k num day amt) := by
  unfold runPost opRun
  simp only
  cases findM k M with
  | some y => exact ePostP _ _ _ (y.1, y.2.2, k, y.2.1, n, num, day, amt)
  | none => exact ePostA _ _ _ (M, k, n, num, day, amt)
theorem runPay_op (M : MapL) (n : Int) (k : ByteArray) (amt : Int) : runPay ((M, n), k, amt, ()) = opRun (GPay N13 N22) Try.f9 M n k (aPay k amt) := by
  unfold runPay opRun
  simp only
  cases findM k M with
  | some y => exact ePayP _ _ (y.1, y.2.2, k, y.2.1, n, amt)
  | none => exact ePayA _ _ (M, k, n, amt)
theorem post_sound : Sound κ Try.prog cPost 11 := by
  intro x y hxy g0 w vals hfree hfresh hM htin hlen hargs
  obtain ⟨⟨M, n⟩, k, num, day, amt, u⟩ := x
  replace hxy : res1 (runPost ((M, n), k, num, day, amt, ())) = some y := hxy
  replace hlen : vals.length = 5 := hlen
  match vals, hlen with
  | [v0, v1, v2, v3, v4], _ =>
    obtain ⟨p, hp, rfl⟩ := hargs 0 v0 rfl
    obtain rfl : v1 = .string k := hargs 1 v1 rfl
    obtain rfl : v2 = .int .i64 num := hargs 2 v2 rfl
    obtain rfl : v3 = .int .i64 day := hargs 3 v3 rfl
    obtain rfl : v4 = .int .i64 amt := hargs 4 v4 rfl
    have hL := led_blk hM rfl
    unfold res1 at hxy
    split at hxy
    · rename_i e o ho
      injection hxy with hxy
      subst hxy
      rw [runPost_op] at ho
      have hc := op_core gPost Try.func11 (by kernel_rfl) (code := bodyOf Try.f11) (by kernel_rfl) (by kernel_rfl) (vals := [.string k, .int .i64 num, .int .i64 day, .int .i64 amt]) hfree hp hL (fun g t => by
        match t with
        | 0 => trivial
        | 1 => exact rfl
        | 2 => exact rfl
        | 3 => exact rfl
        | 4 => exact rfl
        | t + 5 => trivial) ho
      unfold Doc
      rw [run_enter Try.func11 (by kernel_rfl) (by kernel_rfl : Try.f11.body = some (bodyOf Try.f11))]
      refine hc.mono ?_
      rintro en w' ⟨rfl, gN, h1, h2, h3⟩
      refine ⟨_, rfl, gN, [.int .i64 e], h1, ⟨mm_led h3, fun q r e => by cases e⟩, rfl, rfl, fun j u hu => ?_, fun t u ht hu => ?_⟩
      · match j, hu with
        | 0, hu => injection hu with hu; subst hu; exact rfl
      · have ht : t ∈ [0] := ht
        rw [List.mem_singleton] at ht
        subst ht
        injection hu with hu
        subst hu
        exact ⟨p, h2, rfl⟩
    · cases hxy
theorem pay_sound : Sound κ Try.prog cPay 9 := by
  intro x y hxy g0 w vals hfree hfresh hM htin hlen hargs
  obtain ⟨⟨M, n⟩, k, amt, u⟩ := x
  replace hxy : res2 (runPay ((M, n), k, amt, ())) = some y := hxy
  replace hlen : vals.length = 3 := hlen
  match vals, hlen with
  | [v0, v1, v2], _ =>
    obtain ⟨p, hp, rfl⟩ := hargs 0 v0 rfl
    obtain rfl : v1 = .string k := hargs 1 v1 rfl
    obtain rfl : v2 = .int .i64 amt := hargs 2 v2 rfl
    have hL := led_blk hM rfl
    unfold res2 at hxy
    split at hxy
    · rename_i a e o ho
      injection hxy with hxy
      subst hxy
      rw [runPay_op] at ho
      have hc := op_core gPay Try.func9 (by kernel_rfl) (code := bodyOf Try.f9) (by kernel_rfl) (by kernel_rfl) (vals := [.string k, .int .i64 amt]) hfree hp hL (fun g t => by
        match t with
        | 0 => trivial
        | 1 => exact rfl
        | 2 => exact rfl
        | t + 3 => trivial) ho
      unfold Doc
      rw [run_enter Try.func9 (by kernel_rfl) (by kernel_rfl : Try.f9.body = some (bodyOf Try.f9))]
      refine hc.mono ?_
      rintro en w' ⟨rfl, gN, h1, h2, h3⟩
      refine ⟨_, rfl, gN, [.int .i64 a, .int .i64 e], h1, ⟨mm_led h3, fun q r e => by cases e⟩, rfl, rfl, fun j u hu => ?_, fun t u ht hu => ?_⟩
      · match j, hu with
        | 0, hu => injection hu with hu; subst hu; exact rfl
        | 1, hu => injection hu with hu; subst hu; exact rfl
      · have ht : t ∈ [0] := ht
        rw [List.mem_singleton] at ht
        subst ht
        injection hu with hu
        subst hu
        exact ⟨p, h2, rfl⟩
    · cases hxy
end Go.Proofs.Ytkbhbiceojmnaaa.E
/-
  The contracts of Balance and Open on a whole ledger. No condition.
-/
namespace Go.Proofs.Ytkbhbiceojmnaaa.E
open Go
set_option linter.unusedVariables false
set_option linter.unusedSimpArgs false
set_option maxRecDepth 100000
theorem ledD_mono' {x : TL} {g g' : Gh} {w w' : World} {d d' : Nat} (h : LedD x g w d) (h1 : ∀ p, g.bn d = some p → g'.bn d' = some p) (h3 : ∀ p, g.tag p = .blk d → g'.tag p = .blk d' ∧ w'.heap[p]? = w.heap[p]?) : LedD x g' w' d' := by
  obtain ⟨p, m, es, clock, fps, k1, k2, k3, k4, k5, k6, k7, k8⟩ := h
  have same : ∀ q ∈ p :: m :: fps, w'.heap[q]? = w.heap[q]? := fun q hq => (h3 q (k7 q hq)).2
  exact ⟨p, m, es, clock, fps, h1 _ k1, by rw [same p (by simp)]; exact k2, by rw [same m (by simp)]; exact k3, ents_same k4 fun q hq => same q (by simp [hq]), k5, k6, fun q hq => (h3 q (k7 q hq)).1, k8⟩
def fgnB : Tag → Tag
  | .blk _ => .fgn
  | t => t
/-- What a reader leaves. -/
def gRead (g0 g' : Gh) (w : World) : Gh := ⟨g0.bn, g'.rv, fun q => if q < w.heap.size then g0.tag q else fgnB (g'.tag q)⟩
section
variable {g0 g' : Gh} {w w' : World} {p : Nat}
theorem keep_of {q : Nat} (h : q < w.heap.size) : (gKeep w p).tag q = .keep := if_pos h
theorem read_fin (hfree : ∀ q, w.heap.size ≤ q ↔ g0.tag q = .free) (h : Fin (gKeep w p) w g' w') : Fin g0 w (gRead g0 g' w) w' := by
  refine ⟨fun q hq => ?_, fun q hq => ?_, h.size, h.os, h.tape, h.output, h.drawn⟩
  · have hlt : q < w.heap.size := by
      rcases Nat.lt_or_ge q w.heap.size with h | h
      · exact h
      · rw [(hfree q).1 h] at hq; rcases hq with h | h <;> cases h
    exact ⟨if_pos hlt, (h.old q (.inl (keep_of hlt))).2⟩
  · have := h.size
    show (if q < w.heap.size then g0.tag q else fgnB (g'.tag q)) = .free
    rw [if_neg (by omega), h.free q hq]
    rfl
theorem read_led {x : TL} (hfree : ∀ q, w.heap.size ≤ q ↔ g0.tag q = .free) (h : Fin (gKeep w p) w g' w') (hL : LedD x g0 w 0) : LedD x (gRead g0 g' w) w' 0 :=
  ledD_mono' hL (fun _ h => h) fun q hq => by
    have hlt : q < w.heap.size := by
      rcases Nat.lt_or_ge q w.heap.size with h | h
      · exact h
      · rw [(hfree q).1 h] at hq; cases hq
    exact ⟨(if_pos hlt).trans hq, (h.old q (.inl (keep_of hlt))).2⟩
theorem gKeep_free (w : World) (p q : Nat) : w.heap.size ≤ q ↔ (gKeep w p).tag q = .free := by
  show _ ↔ (if q < w.heap.size then Tag.keep else Tag.free) = .free
  split <;> simp <;> omega
theorem gKeep_new (w : World) (p q : Nat) (h : 1000000 ≤ q) : (gKeep w p).bn q = none ∧ ∀ n, (gKeep w p).rv q n = none := ⟨by show (if q = 0 then _ else _) = _; rw [if_neg (by omega)], fun _ => rfl⟩
theorem led_some {M : MapL} {n : Int} {k : ByteArray} {y : MapL × Acc × MapL} (hL : LedD (M, n) g0 w 0) (hp : g0.bn 0 = some p) (hf : findM k M = some y) : LdK (k, y.2.1) (gKeep w p) w 0 := by
  obtain ⟨p', m, es, clock, fps, b1, b2, b3, b4, b5, b6, b7, b8⟩ := hL
  rw [hp] at b1
  injection b1 with b1
  subst b1
  obtain ⟨M1, a, M2⟩ := y
  have hM := findM_some hf
  simp only at hM
  subst hM
  obtain ⟨es1, e, es2, f1, fp, f2, pk, rfl, rfl, k1, k2, k3, k4, s1, s2, i1, i2, i3, i4, i5, rfl⟩ := ents_split b4
  have kk := (keys_mid.1 b5).2
  simp only [List.map_append, List.mem_append, not_or] at kk
  have hfn : Instr.findNow .string (.string k) (es1 ++ e :: es2) 0 = some (some (0 + es1.length, .pointer (some ⟨pk, 0, none⟩))) := by
    rw [findNow_app 0 (ents_find 0 k1 kk.1)]
    have : (k == k) = true := (MapKept.bytes_beq _ _).2 rfl
    simp only [Instr.findNow, k3, Instr.sameNow, this, k4]
  refine ⟨p, m, _, es1 ++ e :: es2, clock, _, pk, s1, s2, rfl, gKeep_tag b2, b2, gKeep_tag b3, b3, hfn, gKeep_tag i1, i1, rowK_owns (e := 45) (fun x hx => ?_) ?_, rowK_owns (e := 3) (fun x hx => ?_) ?_⟩
  · obtain ⟨o, _, rfl⟩ := List.mem_map.1 hx; rfl
  · rw [List.length_map]; exact i4
  · obtain ⟨o, _, rfl⟩ := List.mem_map.1 hx; rfl
  · rw [List.length_map]; exact i5
theorem led_none {M : MapL} {n : Int} {k : ByteArray} (hL : LedD (M, n) g0 w 0) (hp : g0.bn 0 = some p) (hf : findM k M = none) : LdN k (gKeep w p) w 0 := by
  obtain ⟨p', m, es, clock, fps, b1, b2, b3, b4, b5, b6, b7, b8⟩ := hL
  rw [hp] at b1
  injection b1 with b1
  subst b1
  exact ⟨p, m, _, es, clock, rfl, gKeep_tag b2, b2, gKeep_tag b3, b3, ents_find 0 b4 (findM_none hf)⟩
end
/-! ### no account -/
def i13n : Fr τ (T904 × ByteArray × Unit) := .ob 0 904 (.val 1 .str .nil)
def o13n : Fr τ (Int × T904 × Unit) := .val 1000 (.int .i64) (.ob 0 904 .nil)
def o16n : Fr τ (List T45 × T904 × Unit) := .own 1000 45 (.ob 0 904 .nil)
def M13n : (T904 × ByteArray × Unit) → Option (Int × T904 × Unit) := fun ⟨l', ⟨name', ()⟩⟩ => ((bif ByteArray.toList l' == ByteArray.toList name' then some () else none).bind fun () => some (0, (l', ())))
def M16n : (T904 × ByteArray × Unit) → Option (List T45 × T904 × Unit) := fun ⟨l', ⟨name', ()⟩⟩ => ((bif ByteArray.toList l' == ByteArray.toList name' then some () else none).bind fun () => some ([], (l', ())))
abbrev G16' : Nat → Option (Ct τ) := G16 (cCloneG (e := 45) (F := N29) (τ := τ)).f (cSortG (e := 45) (g := 31) (cf := cmpQ) (ok := apartQ) (τ := τ)).f N31
theorem e13n : ∀ x, M13n x = fnE Try.prog κ G13 (tabL []) Try.f13 i13n o13n x := fun x => by kernel_rfl
theorem e16n : ∀ x, M16n x = fnE Try.prog κ G16' (tabL []) Try.f16 i13n o16n x := fun x => by kernel_rfl
theorem s13n : Sound κ Try.prog (⟨i13n, o13n, M13n, 0⟩ : Ctr τ) 13 := fn_sound (S := tabL []) (F := Try.f13) (code := bodyOf Try.f13) (by kernel_rfl) g13 Try.func13 (by kernel_rfl) (by kernel_rfl) (by kernel_rfl) (fun Z _ _ p _ C hC => by cases hC) (by kernel_rfl) (by kernel_rfl) fun x y h => (e13n x).symm.trans h
theorem s16n : Sound κ Try.prog (⟨i13n, o16n, M16n, 0⟩ : Ctr τ) 16 := fn_sound (S := tabL []) (F := Try.f16) (code := bodyOf Try.f16) (by kernel_rfl) g16 Try.func16 (by kernel_rfl) (by kernel_rfl) (by kernel_rfl) (fun Z _ _ p _ C hC => by cases hC) (by kernel_rfl) (by kernel_rfl) fun x y h => (e16n x).symm.trans h
theorem mn_same (k : ByteArray) : M13n (k, k, ()) = some (0, k, ()) ∧ M16n (k, k, ()) = some ([], k, ()) := by
  unfold M13n M16n
  simp
/-! ### whole -/
def fBal (x : TL × ByteArray × Unit) : Option (Int × TL × Unit) :=
  match findM x.2.1 x.1.1 with
  | some y => match N13 ((x.2.1, y.2.1), x.2.1, ()) with | some z => some (z.1, x.1, ()) | none => none
  | none => some (0, x.1, ())
def fOpen (x : TL × ByteArray × Unit) : Option (List OpnR × TL × Unit) :=
  match findM x.2.1 x.1.1 with
  | some y => match N16 ((x.2.1, y.2.1), x.2.1, ()) with | some z => some (z.1, x.1, ()) | none => none
  | none => some ([], x.1, ())
def iBal : Fr τ (T900 × ByteArray × Unit) := .ob 0 900 (.val 1 .str .nil)
def oBal : Fr τ (Int × T900 × Unit) := .val 1000 (.int .i64) (.ob 0 900 .nil)
def oOpen : Fr τ (List T45 × T900 × Unit) := .own 1000 45 (.ob 0 900 .nil)
def cBal : Ctr τ := ⟨iBal, oBal, fBal, 0⟩
def cOpen : Ctr τ := ⟨iBal, oOpen, fOpen, 0⟩
theorem mm_one {g : Gh} {w : World} {e : Nat} {x : τ e} {r : Nat → Option (Row τ)} (h : ObD (κ e) x g w 0) (hR : ObR (κ e)) (hr : ∀ q, r q = none) : Mm κ g w (tab none [(0, some (.ob e x []))]) r := by
  refine ⟨fun d b e' => ?_, fun q R e' => by rw [hr] at e'; cases e'⟩
  by_cases e1 : d = 0
  · subst e1
    rw [tab_cons, if_pos rfl] at e'
    injection e' with e'
    subst e'
    exact ⟨h, fun _ => hR⟩
  · rw [tab_cons, if_neg e1] at e'
    cases e'
theorem bal_sound : Sound κ Try.prog cBal 13 := by
  intro x y hxy g0 w vals hfree hfresh hM htin hlen hargs
  obtain ⟨⟨M, n⟩, k, u⟩ := x
  replace hxy : fBal ((M, n), k, ()) = some y := hxy
  replace hlen : vals.length = 2 := hlen
  match vals, hlen with
  | [v0, v1], _ =>
    obtain ⟨p, hp, rfl⟩ := hargs 0 v0 rfl
    obtain rfl : v1 = .string k := hargs 1 v1 rfl
    have hL := led_blk hM rfl
    have harg : ∀ (b : T903) (t : Nat) (v : Value), [Value.pointer (some ⟨p, 0, none⟩), .string k][t]? = some v → denS κ (gKeep w p) w (tab (lf .any) [(0, lf (.ptr 0 0)), (1, lf (.v (.string k)))] t) v := fun b t v hv => by
      match t, hv with
      | 0, hv => injection hv with hv; subst hv; exact ⟨p, rfl, rfl⟩
      | 1, hv => injection hv with hv; subst hv; exact rfl
    have fin : ∀ (g' : Gh) (w' : World) (z : Int) (vs : List Value), Fin (gKeep w p) w g' w' → vs.length = 1 → (∀ u, vs[0]? = some u → u = .int .i64 z) → y = (z, (M, n), ()) → ∃ gN us, Fin g0 w gN w' ∧ Mm κ gN w' (cBal.o.build y).b (cBal.o.build y).r ∧ valOf vs = valOf us ∧ us.length = cBal.o.nres ∧
        (∀ (j : Nat) (u : Value), us[j]? = some u → denS κ gN w' ((cBal.o.build y).t (1000 + j)) u) ∧ ∀ (t : Nat) (u : Value), t ∈ cBal.o.keeps → [Value.pointer (some ⟨p, 0, none⟩), .string k][t]? = some u → denS κ gN w' ((cBal.o.build y).t t) u := by
      intro g' w' z vs hfin hvl hv hy
      subst hy
      refine ⟨gRead g0 g' w, vs, read_fin hfree hfin, ⟨mm_led (read_led hfree hfin hL), fun q r e => by cases e⟩, rfl, hvl, fun j u hu => ?_, fun t u ht hu => ?_⟩
      · match vs, hvl, j, hu with
        | [v], _, 0, hu => injection hu with hu; subst hu; exact hv _ rfl
      · have ht : t ∈ [0] := ht
        rw [List.mem_singleton] at ht
        subst ht
        injection hu with hu
        subst hu
        exact ⟨p, hp, rfl⟩
    unfold fBal at hxy
    simp only at hxy
    split at hxy
    · rename_i yy hf
      split at hxy
      · rename_i z hz
        injection hxy with hxy
        have hS := s13 ((k, yy.2.1), k, ()) z hz (gKeep w p) w [.pointer (some ⟨p, 0, none⟩), .string k] (gKeep_free w p) (gKeep_new w p) (mm_one (led_some hL hp hf) ldK_ren fun _ => rfl) rfl rfl (harg (k, yy.2.1))
        unfold Doc at hS ⊢
        rw [run_enter Try.func13 (by kernel_rfl) (by kernel_rfl : Try.f13.body = some (bodyOf Try.f13))] at hS ⊢
        refine Calls.mono hS ?_
        rintro en w' ⟨v, rfl, g', vs, h1, h2, rfl, h4, h5, h6⟩
        exact ⟨_, rfl, fin g' w' z.1 vs h1 h4 (fun u hu => h5 0 u hu) hxy.symm⟩
      · cases hxy
    · rename_i hf
      injection hxy with hxy
      have hS := s13n (k, k, ()) (0, k, ()) (mn_same k).1 (gKeep w p) w [.pointer (some ⟨p, 0, none⟩), .string k] (gKeep_free w p) (gKeep_new w p) (mm_one (e := 904) (led_none hL hp hf) ldN_ren fun _ => rfl) rfl rfl (harg (k, [], 0, []))
      unfold Doc at hS ⊢
      rw [run_enter Try.func13 (by kernel_rfl) (by kernel_rfl : Try.f13.body = some (bodyOf Try.f13))] at hS ⊢
      refine Calls.mono hS ?_
      rintro en w' ⟨v, rfl, g', vs, h1, h2, rfl, h4, h5, h6⟩
      exact ⟨_, rfl, fin g' w' 0 vs h1 h4 (fun u hu => h5 0 u hu) hxy.symm⟩
theorem open_sound : Sound κ Try.prog cOpen 16 := by
  intro x y hxy g0 w vals hfree hfresh hM htin hlen hargs
  obtain ⟨⟨M, n⟩, k, u⟩ := x
  replace hxy : fOpen ((M, n), k, ()) = some y := hxy
  replace hlen : vals.length = 2 := hlen
  match vals, hlen with
  | [v0, v1], _ =>
    obtain ⟨p, hp, rfl⟩ := hargs 0 v0 rfl
    obtain rfl : v1 = .string k := hargs 1 v1 rfl
    have hL := led_blk hM rfl
    have harg : ∀ (b : T903) (t : Nat) (v : Value), [Value.pointer (some ⟨p, 0, none⟩), .string k][t]? = some v → denS κ (gKeep w p) w (tab (lf .any) [(0, lf (.ptr 0 0)), (1, lf (.v (.string k)))] t) v := fun b t v hv => by
      match t, hv with
      | 0, hv => injection hv with hv; subst hv; exact ⟨p, rfl, rfl⟩
      | 1, hv => injection hv with hv; subst hv; exact rfl
    have fin : ∀ (g' : Gh) (w' : World) (z : List T45) (vs : List Value), Fin (gKeep w p) w g' w' → RowD κ g' w' 1000 ⟨45, z, 0, false⟩ → vs.length = 1 → (∀ u, vs[0]? = some u → denS κ g' w' (lf (.own 1000 0)) u) → y = (z, (M, n), ()) → ∃ gN us, Fin g0 w gN w' ∧ Mm κ gN w' (cOpen.o.build y).b (cOpen.o.build y).r ∧ valOf vs = valOf us ∧ us.length = cOpen.o.nres ∧
        (∀ (j : Nat) (u : Value), us[j]? = some u → denS κ gN w' ((cOpen.o.build y).t (1000 + j)) u) ∧ ∀ (t : Nat) (u : Value), t ∈ cOpen.o.keeps → [Value.pointer (some ⟨p, 0, none⟩), .string k][t]? = some u → denS κ gN w' ((cOpen.o.build y).t t) u := by
      intro g' w' z vs hfin hrow hvl hv hy
      subst hy
      refine ⟨gRead g0 g' w, vs, read_fin hfree hfin, ⟨mm_led (read_led hfree hfin hL), fun q r e => ?_⟩, rfl, hvl, fun j u hu => ?_, fun t u ht hu => ?_⟩
      · have e : tab none [(1000, some (⟨45, z, 0, false⟩ : Row τ))] q = some r := e
        by_cases e1 : q = 1000
        · subst e1
          rw [tab_cons, if_pos rfl] at e
          injection e with e
          subst e
          obtain ⟨v, r1, r2⟩ := hrow
          refine ⟨v, r1, ?_⟩
          rw [if_neg (by simp)] at r2 ⊢
          obtain ⟨inner, i1, i2, i3⟩ := r2
          have hin := all2_raw (by kernel_rfl : (κ 45).flat = true) i1
          subst hin
          refine ⟨_, raw_all2 (by kernel_rfl : (κ 45).flat = true) _, i2, fun q hq => ?_⟩
          have h3 := i3 q hq
          have hge : ¬ q < w.heap.size := fun hlt => by
            have := (hfin.old q (.inl (keep_of hlt))).1
            rw [h3, keep_of hlt] at this
            cases this
          show (if q < w.heap.size then g0.tag q else fgnB (g'.tag q)) = _
          rw [if_neg hge, h3]
          rfl
        · rw [tab_cons, if_neg e1] at e
          cases e
      · match vs, hvl, j, hu with
        | [v], _, 0, hu => injection hu with hu; subst hu; exact hv _ rfl
      · have ht : t ∈ [0] := ht
        rw [List.mem_singleton] at ht
        subst ht
        injection hu with hu
        subst hu
        exact ⟨p, hp, rfl⟩
    unfold fOpen at hxy
    simp only at hxy
    split at hxy
    · rename_i yy hf
      split at hxy
      · rename_i z hz
        injection hxy with hxy
        have hS := s16 ((k, yy.2.1), k, ()) z hz (gKeep w p) w [.pointer (some ⟨p, 0, none⟩), .string k] (gKeep_free w p) (gKeep_new w p) (mm_one (led_some hL hp hf) ldK_ren fun _ => rfl) rfl rfl (harg (k, yy.2.1))
        unfold Doc at hS ⊢
        rw [run_enter Try.func16 (by kernel_rfl) (by kernel_rfl : Try.f16.body = some (bodyOf Try.f16))] at hS ⊢
        refine Calls.mono hS ?_
        rintro en w' ⟨v, rfl, g', vs, h1, h2, rfl, h4, h5, h6⟩
        exact ⟨_, rfl, fin g' w' z.1 vs h1 (h2.row 1000 _ rfl) h4 (fun u hu => h5 0 u hu) hxy.symm⟩
      · cases hxy
    · rename_i hf
      injection hxy with hxy
      have hS := s16n (k, k, ()) ([], k, ()) (mn_same k).2 (gKeep w p) w [.pointer (some ⟨p, 0, none⟩), .string k] (gKeep_free w p) (gKeep_new w p) (mm_one (e := 904) (led_none hL hp hf) ldN_ren fun _ => rfl) rfl rfl (harg (k, [], 0, []))
      unfold Doc at hS ⊢
      rw [run_enter Try.func16 (by kernel_rfl) (by kernel_rfl : Try.f16.body = some (bodyOf Try.f16))] at hS ⊢
      refine Calls.mono hS ?_
      rintro en w' ⟨v, rfl, g', vs, h1, h2, rfl, h4, h5, h6⟩
      exact ⟨_, rfl, fin g' w' [] vs h1 (h2.row 1000 _ rfl) h4 (fun u hu => h5 0 u hu) hxy.symm⟩
end Go.Proofs.Ytkbhbiceojmnaaa.E
/-
  A new ledger. No condition.
-/
namespace Go.Proofs
open Go.Shelf Go.RowKit Go.Lib Go.Sort
theorem new_calls (w : World) : Calls Try.prog 8 #[] w fun e w' => e = .returned (.pointer (some ⟨w.heap.size + 1, 0, none⟩)) ∧ w' = (w.alloc (.map #[] 0)).alloc (.cells #[.map (some w.heap.size), .int .i64 0] 50 (0, 0)) := by
  have hm : ∀ W : World, (Instr.makeMap 48 none).run Try.prog W = .ok (.map (some W.heap.size)) (W.alloc (.map #[] 0)) := fun W => by simp [Instr.makeMap, Result.andThen]
  go_enter Try.func8, Try.ntmps8
  go_wp2
  go_ret
  exact ⟨rfl, rfl⟩
end Go.Proofs
namespace Go.Proofs.Ytkbhbiceojmnaaa.E
open Go
set_option linter.unusedVariables false
set_option linter.unusedSimpArgs false
def oNew : Fr τ (T900 × Unit) := .ob 1000 900 .nil
def cNew : Ctr τ := ⟨(.nil : Fr τ Unit), oNew, fun _ => some ((([], 0) : TL), ()), 0⟩
theorem alloc_get (w : World) (o : Obj) (q : Nat) : (w.alloc o).heap[q]? = if q = w.heap.size then some o else w.heap[q]? := by
  show (w.heap.push o)[q]? = _
  rw [Array.getElem?_push]
theorem new_sound : Sound κ Try.prog cNew 8 := by
  intro x y hxy g0 w vals hfree hfresh hM htin hlen hargs
  obtain rfl := Option.some.inj hxy
  replace hlen : vals.length = 0 := hlen
  match vals, hlen with
  | [], _ =>
    unfold Doc
    rw [run_enter Try.func8 (by kernel_rfl) (by kernel_rfl : Try.f8.body = some (bodyOf Try.f8))]
    refine (new_calls w).mono ?_
    rintro en w' ⟨rfl, rfl⟩
    have hs : ((w.alloc (.map #[] 0)).alloc (.cells #[.map (some w.heap.size), .int .i64 0] 50 (0, 0))).heap.size = w.heap.size + 2 := by simp
    have hs1 : (w.alloc (.map #[] 0)).heap.size = w.heap.size + 1 := by simp
    refine ⟨_, rfl, ⟨fun n => if n = 1000 then some (w.heap.size + 1) else none, fun _ _ => none, fun q => if q < w.heap.size then g0.tag q else if q < w.heap.size + 2 then .blk 1000 else .free⟩, [.pointer (some ⟨w.heap.size + 1, 0, none⟩)], ⟨fun q hq => ?_, fun q hq => ?_, by omega, rfl, rfl, rfl, Nat.le_refl _⟩, ⟨fun d b e => ?_, fun q r e => by cases e⟩, rfl, rfl, fun j u hu => ?_, fun t u ht hu => by cases ht⟩
    · have hlt : q < w.heap.size := by
        rcases Nat.lt_or_ge q w.heap.size with h | h
        · exact h
        · rw [(hfree q).1 h] at hq; rcases hq with h | h <;> cases h
      exact ⟨if_pos hlt, by rw [alloc_get, if_neg (by omega), alloc_get, if_neg (by omega)]⟩
    · dsimp only
      rw [if_neg (by omega), if_neg (by omega)]
    · have e : tab none [(1000, some (.ob 900 (([], 0) : TL) []))] d = some b := e
      by_cases e1 : d = 1000
      · subst e1
        rw [tab_cons, if_pos rfl] at e
        injection e with e
        subst e
        refine ⟨?_, fun _ => ledD_ren⟩
        refine ⟨w.heap.size + 1, w.heap.size, [], 0, [], rfl, ?_, ?_, .nil, by simp, by simp, fun q hq => ?_, by simp, fun e he => by cases he⟩
        · rw [alloc_get, if_pos (by omega)]
        · rw [alloc_get, if_neg (by omega), alloc_get, if_pos rfl]
        · simp only [List.mem_cons, List.not_mem_nil, or_false] at hq
          dsimp only
          rw [if_neg (by omega), if_pos (by omega)]
      · rw [tab_cons, if_neg e1] at e
        cases e
    · match j, hu with
      | 0, hu => injection hu with hu; subst hu; exact ⟨_, rfl, rfl⟩
end Go.Proofs.Ytkbhbiceojmnaaa.E
/-
  A map's iterator, wherever its block lies. No condition.
-/
namespace Go.Proofs.Ytkbhbiceojmnaaa.E
open Go
set_option linter.unusedVariables false
set_option linter.unusedSimpArgs false
theorem next_at {P : Program} {w : World} {it m clock : Nat} {seen : Array Nat} {es : Array MapEntry} (ty : TypeId) (hit : w.heap[it]? = some (.mapIter (some m) clock seen clock)) (hm : w.heap[m]? = some (.map es clock)) (hold : ∀ x ∈ es.toList, x.born < clock) :
    ((leftOf es seen) = #[] ∧ (Instr.next (.pointer (some ⟨it, 0, none⟩)) false ty).run P w = .ok (.tuple #[.bool false]) w) ∨
    ∃ e ∈ (leftOf es seen).toList, ∃ d, w.drawn ≤ d ∧ (Instr.next (.pointer (some ⟨it, 0, none⟩)) false ty).run P w = .ok (.tuple #[.bool true, e.key, e.val]) { w with drawn := d, heap := w.heap.setIfInBounds it (.mapIter (some m) clock (seen.push e.born) clock) } := by
  simp only [Instr.next, getObj, Sem.run_bind, Sem.run, hit, hm, Result.andThen, next_test_false seen es clock clock hold (Nat.le_refl _), Bool.false_eq_true, if_false]
  unfold leftOf
  have hmem : ∀ x ∈ (Array.filter (fun e => !seen.contains e.born) es).toList, x.born < clock := fun x hx => hold x (by simp at hx ⊢; exact hx.1)
  generalize Array.filter (fun e => !seen.contains e.born) es = L at hmem ⊢
  have e1 : L.filter (fun x => decide (x.born < clock)) = L := Array.filter_eq_self.2 (fun x hx => by simpa using hmem x (by simpa using hx))
  have e2 : L.filter (fun x => decide (x.born ≥ clock)) = #[] := by
    rw [Array.filter_eq_empty_iff]
    intro x hx
    have := hmem x (by simpa using hx)
    simp
    omega
  simp only [e1, e2, Array.append_empty]
  by_cases h0 : L = #[]
  · subst h0
    exact .inl ⟨rfl, by simp [choose, Sem.run, Question.forced]⟩
  · right
    have hsz : L.size ≠ 0 := fun h => h0 (Array.eq_empty_of_size_eq_zero h)
    have hne : L.isEmpty = false := by simp [Array.isEmpty, hsz]
    simp only [hne, Bool.false_eq_true, if_false, Array.empty_append, Array.size_map]
    have hch : ∃ (j d : Nat), j < L.size ∧ w.drawn ≤ d ∧ (choose (Question.mapNext L.size)).run P w = .ok j { w with drawn := d } := by
      by_cases hf : L.size ≤ 1
      · exact ⟨0, w.drawn, by omega, Nat.le_refl _, by simp [choose, Sem.run, Question.forced, hf]⟩
      · exact ⟨_, w.drawn + 1, Nat.mod_lt _ (by omega), Nat.le_succ _, by
          simp only [choose, Sem.run, Question.forced, decide_eq_true_eq, hf, if_false, Question.cut]
          rfl⟩
    obtain ⟨j, d, hj, hd, hrun⟩ := hch
    refine ⟨L[j], by simp, d, hd, ?_⟩
    simp only [hrun, Array.getElem?_map, Array.getElem?_eq_getElem hj, Option.map_some, Sem.run_bind, setObj, Sem.run, hit, Result.andThen]
    rfl
theorem entry_at {P : Program} {w : World} {it m clock : Nat} {seen : Array Nat} {es : Array MapEntry} {e : MapEntry} (hit : w.heap[it]? = some (.mapIter (some m) clock (seen.push e.born) clock)) (hm : w.heap[m]? = some (.map es clock)) (he : e ∈ es.toList) (hn : (es.toList.map (·.born)).Nodup) :
    (Instr.entry (.pointer (some ⟨it, 0, none⟩))).run P w = .ok (.tuple #[e.key, e.val]) w := by
  have hf : es.find? (·.born == e.born) = some e := by rw [← Array.find?_toList]; exact find_born e es.toList hn he
  simp only [Instr.entry, getObj, Sem.run_bind, Sem.run, hit, hm, Result.andThen, Array.back?_push, bne_self_eq_false, Bool.false_eq_true, if_false, hf]
  rfl
/-! ### a round's work on an account -/
noncomputable def c78 : Code := match bodyOf Try.f19 with
  | .seq _ (.seq _ (.seq _ (.seq (.seq _ (.block _ (.loop (.seq _ (.seq _ (.block _ (.seq _ c))))))) _))) => c
  | _ => .skip
def s78 (L : List ByteArray) (k : ByteArray) (a : Acc) (day : Int) : St τ :=
  ⟨tab (lf .any) [(1, vl (.int .i64 day)), (5, lf (.own 5 0)), (6, vl (.string k)), (7, lf (.sp 902 a 0))], fun _ => none, tab none [(5, some ⟨9, L, 0, false⟩)], 1000000⟩
def q78 (e : Exit) (s : St τ) : Option (List ByteArray) :=
  match e with
  | .normal => (match s.t 5 with | .c (.lf c) => ownOf 9 s.r c | _ => none)
  | _ => none
/-- A queue's length, where it is only read. -/
def i32v : Fr τ (List T45 × Unit) := .val 0 (.sl 45) .nil
def o32v : Fr τ (Int × Unit) := .val 1000 (.int .i64) .nil
def M32v : (List T45 × Unit) → Option (Int × Unit) := fun ⟨q', ()⟩ => some ((↑(List.length q') : Int), ())
theorem e32v : ∀ x, M32v x = fnE Try.prog κ G32 (tabL []) Try.f32 i32v o32v x := fun x => by kernel_rfl
theorem s32v : Sound κ Try.prog (⟨i32v, o32v, M32v, 0⟩ : Ctr τ) 32 := fn_sound (S := tabL []) (F := Try.f32) (code := bodyOf Try.f32) (by kernel_rfl) g32 Try.func32 (by kernel_rfl) (by kernel_rfl) (by kernel_rfl) (fun Z _ _ p _ C hC => by cases hC) (by kernel_rfl) (by kernel_rfl) fun x y h => (e32v x).symm.trans h
def G78 (c32 : (List T45 × Unit) → Option (Int × Unit)) : Nat → Option (Ct τ) := tabG [(32, ⟨i32v, o32v, c32, 0⟩)]
def M78 (c32 : (List T45 × Unit) → Option (Int × Unit)) : List ByteArray × ByteArray × Acc × Int → Option (List ByteArray) := fun ⟨L', ⟨k', ⟨⟨l_0, ⟨l_1, l_2⟩⟩, z⟩⟩⟩ => ((c32 (l_0, ())).bind fun ⟨y0, ()⟩ => (bif decide (y0 > 0) then ((l_0[0]?).bind fun ⟨y2_0, ⟨y2_1, y2_2⟩⟩ => (bif decide (y2_1 ≤ z) then ((bif decide ((List.length L' + 1) * 16 ≤ 210000000000000) then some () else none).bind fun () => (some (L' ++ [k']))) else (some L'))) else (some L')))
theorem e78 : ∀ (c32 : (List T45 × Unit) → Option (Int × Unit)) x, M78 c32 x = run Try.prog κ (G78 c32) (tabL []) 1 c78 (s78 x.1 x.2.1 x.2.2.1 x.2.2.2) q78 := fun c32 x => by kernel_rfl
/-- Has an account an open bill of a day, or an earlier one, at its top? -/
def owes (day : Int) (a : Acc) : Bool := match a.1 with | [] => false | o :: _ => decide (o.2.1 ≤ day)
theorem m78 (L : List ByteArray) (k : ByteArray) (a : Acc) (day : Int) (hL : L.length ≤ 1000000) : M78 M32v (L, k, a, day) = some (bif owes day a then L ++ [k] else L) := by
  obtain ⟨l, c, ps⟩ := a
  unfold M78 M32v owes
  cases l with
  | nil => rfl
  | cons o l =>
    obtain ⟨o1, o2, o3⟩ := o
    have h1 : decide (((o1, o2, o3) :: l).length > (0 : Int)) = true := by simp
    have h2 : decide ((L.length + 1) * 16 ≤ 210000000000000) = true := decide_eq_true (by omega)
    simp only [Option.bind_some, List.getElem?_cons_zero]
    rw [h1, cond_true, h2]
    cases hd : decide (o2 ≤ day) <;> rfl
theorem g78 : GOK κ Try.prog (G78 M32v) := gok_cons s32v (keeps0 rfl) gok_nil
end Go.Proofs.Ytkbhbiceojmnaaa.E
/-
  A round's work on an account, in the machine. No condition.
-/
namespace Go.Proofs.Ytkbhbiceojmnaaa.E
open Go
set_option linter.unusedVariables false
set_option linter.unusedSimpArgs false
theorem rowK_owns' {g : Gh} {w : World} {e sz : Nat} {v : Value} {cs : List (List Value)} (hg : ∀ q, ownB v = some q → g.tag q = .keep) (hs : ∀ x ∈ cs, x.length = sz) (h : Owns w e sz v cs.length cs.flatten) : RowK g w sz v cs := by
  obtain ⟨A, c, h1, h2, h3⟩ := rowK_owns (p := 0) hs h
  refine ⟨A, c, h1, h2, fun j l hj => ?_⟩
  obtain ⟨ad, k1, k2, k3⟩ := h3 j l hj
  refine ⟨ad, k1, hg _ ?_, k3⟩
  subst h1 k1
  have hl : j < cs.length := (List.getElem?_eq_some_iff.1 hj).1
  unfold ownB
  simp only
  rw [show Nat.beq c 0 = false from by rw [← Bool.not_eq_true]; intro e; have := Nat.eq_of_beq_eq_true e; omega]
  rfl
/-- A list of texts in a row of one's own. -/
def OwnS (w : World) (V : Value) (L : List ByteArray) : Prop := Owns w 9 1 V L.length (L.map Value.string)
theorem raw9 (L : List (τ 9)) : (L.map (κ 9).raw).flatten = List.map Value.string (show List ByteArray from L) := by
  have h : ∀ s : τ 9, (κ 9).raw s = [Value.string s] := fun s => rfl
  rw [List.map_congr_left fun s _ => h s]
  induction L with
  | nil => rfl
  | cons a L ih => simp only [List.map_cons, List.flatten_cons, ih]; rfl
def gRound (N0 : Nat) (w : World) (V : Value) : Gh :=
  ⟨fun _ => none, fun r v => if r = 5 ∧ v = 0 then some V else none, fun q => if q < N0 then .keep else if ownB V = some q then .row 5 else if q < w.heap.size then .fgn else .free⟩
theorem q78_inv {e : Exit} {s : St τ} {R : List ByteArray} (h : q78 e s = some R) : e = .normal ∧ ∃ c, s.t 5 = .c (.lf c) ∧ ownOf 9 s.r c = some R := by
  cases e with
  | normal =>
    have h : (match s.t 5 with | .c (.lf c) => ownOf 9 s.r c | _ => none) = some R := h
    cases hs : s.t 5 with
    | c x =>
      rw [hs] at h
      cases x with
      | lf c => exact ⟨rfl, c, rfl, h⟩
      | agg cs => cases h
      | arr k n l => cases h
    | tup xs => rw [hs] at h; cases h
  | _ => cases h
theorem body_wp {a : Act} {w : World} {N0 it pk : Nat} {day : Int} {V : Value} {L : List ByteArray} {k : ByteArray} {ac : Acc} {fp : List Nat} (hsz : a.tmps.size = Try.f19.ntmps) (hdf : a.defers = []) (h1 : a.tmps.getD 1 undef = .int .i64 day) (h5 : a.tmps.getD 5 undef = V) (h6 : a.tmps.getD 6 undef = .string k) (h7 : a.tmps.getD 7 undef = .pointer (some ⟨pk, 0, none⟩))
    (hN : N0 ≤ w.heap.size) (hA : AccD w pk ac fp) (hfp : ∀ q ∈ fp, q < N0) (hV : OwnS w V L) (hVo : V.oneCell' = true) (hVb : ∀ q, ownB V = some q → N0 ≤ q) (hL : L.length ≤ 1000000) :
    c78.wp Try.prog (fun e a' w' => e = .normal ∧ a'.tmps.size = a.tmps.size ∧ a'.defers = [] ∧ (∀ t ∈ [0, 1, 14], a'.tmps.getD t undef = a.tmps.getD t undef) ∧ (∀ q, q < w.heap.size → ownB V ≠ some q → w'.heap[q]? = w.heap[q]?) ∧ w.heap.size ≤ w'.heap.size ∧ w'.os = w.os ∧ w'.tape = w.tape ∧ w'.output = w.output ∧ w.drawn ≤ w'.drawn ∧
      ∃ V', a'.tmps.getD 5 undef = V' ∧ OwnS w' V' (bif owes day ac then L ++ [k] else L) ∧ V'.oneCell' = true ∧ ∀ q, ownB V' = some q → ownB V = some q ∨ w.heap.size ≤ q) a w := by
  have hlt := hV.lt
  have hrun := (e78 M32v (L, k, ac, day)).symm.trans (m78 L k ac day hL)
  generalize (bif owes day ac then L ++ [k] else L) = R at hrun ⊢
  have hdd : dsts a.tmps.size [0, 1, 14] c78 = true := dsts_mono (by rw [hsz]; exact Nat.le_refl _) _ (by kernel_rfl : dsts Try.f19.ntmps [0, 1, 14] c78 = true)
  have htag : ∀ q, (gRound N0 w V).tag q = if q < N0 then .keep else if ownB V = some q then .row 5 else if q < w.heap.size then .fgn else .free := fun q => rfl
  have hfree : ∀ q, w.heap.size ≤ q ↔ (gRound N0 w V).tag q = .free := fun q => by
    rw [htag]
    constructor
    · intro h
      rw [if_neg (by omega), if_neg (fun e => by have := hlt q e; omega), if_neg (by omega)]
    · intro h
      split at h
      · cases h
      · split at h
        · cases h
        · split at h
          · cases h
          · omega
  obtain ⟨e, s', r1, r2⟩ := run_sound (Z := ⟨w, (gRound N0 w V).tag, a.tmps.size, [0, 1, 14], fun t => a.tmps.getD t undef⟩) (by kernel_rfl) g78 c78 1 _ q78 _ hdd (fun p _ C hC => by cases hC) hrun
  obtain ⟨s1, s2, i1, i2, i3, i4, i5, rfl⟩ := hA
  have hpk : (gRound N0 w V).tag pk = .keep := by rw [htag, if_pos (hfp pk (by simp))]
  have hs1 : ∀ q, ownB s1 = some q → (gRound N0 w V).tag q = .keep := fun q hq => by rw [htag, if_pos (hfp q (by simp [hq]))]
  have hs2 : ∀ q, ownB s2 = some q → (gRound N0 w V).tag q = .keep := fun q hq => by rw [htag, if_pos (hfp q (by simp [hq]))]
  have hrow : RowD κ (gRound N0 w V) w 5 ⟨9, L, 0, false⟩ := by
    refine ⟨V, ⟨rfl, fun n hn => ?_⟩, ?_⟩
    · show (if 5 = 5 ∧ n = 0 then some V else none) = none
      have hn : 0 < n := hn
      rw [if_neg (by omega)]
    · rw [if_neg (by simp)]
      refine ⟨_, raw_all2 (by kernel_rfl : (κ 9).flat = true) _, ?_, fun q hq => ?_⟩
      · rw [raw9]
        exact hV
      · have := hVb q hq
        rw [htag, if_neg (by omega), if_pos hq]
  refine wp_mono (r1 (gRound N0 w V) a w ⟨⟨fun q hq => (hfree q).1 hq, fun q hq e => by have := (hfree q).2 e; omega, fun q _ => ⟨rfl, rfl⟩, Nat.le_refl _, rfl, rfl, rfl, Nat.le_refl _⟩, ⟨fun d b e => (by cases e), fun q r e => ?_⟩, fun t => ?_, fun q hq => ⟨rfl, fun n => ?_⟩, hdf, rfl, fun t _ => rfl⟩) ?_
  · have e : tab none [(5, some (⟨9, L, 0, false⟩ : Row τ))] q = some r := e
    by_cases e1 : q = 5
    · subst e1
      rw [tab_cons, if_pos rfl] at e
      injection e with e
      subst e
      exact hrow
    · rw [tab_cons, if_neg e1] at e
      cases e
  · show denS κ _ w (tab (lf .any) [(1, vl (.int .i64 day)), (5, lf (.own 5 0)), (6, vl (.string k)), (7, lf (.sp 902 ac 0))] t) _
    by_cases e1 : t = 1
    · subst e1; rw [tab_cons, if_pos rfl, h1]; exact rfl
    · rw [tab_cons, if_neg e1]
      by_cases e5 : t = 5
      · subst e5; rw [tab_cons, if_pos rfl, h5]; exact ⟨rfl, hVo⟩
      · rw [tab_cons, if_neg e5]
        by_cases e6 : t = 6
        · subst e6; rw [tab_cons, if_pos rfl, h6]; exact rfl
        · rw [tab_cons, if_neg e6]
          by_cases e7 : t = 7
          · subst e7
            rw [tab_cons, if_pos rfl, h7]
            refine ⟨⟨pk, 0, none⟩, [s1, .int .i64 ac.2.1, s2], by rfl, hpk, kdA (rowK_owns' (e := 45) hs1 (fun x hx => ?_) ?_) (rowK_owns' (e := 3) hs2 (fun x hx => ?_) ?_), fun i u hu => ?_⟩
            · obtain ⟨o, _, rfl⟩ := List.mem_map.1 hx; rfl
            · rw [List.length_map]; exact i4
            · obtain ⟨o, _, rfl⟩ := List.mem_map.1 hx; rfl
            · rw [List.length_map]; exact i5
            · rw [show ((⟨pk, 0, none⟩ : Addr).add i) = ⟨pk, i, none⟩ from by unfold Addr.add; split <;> simp_all]
              unfold World.cell?
              simpa [i1] using hu
          · rw [tab_cons, if_neg e7]
            trivial
  · show (if q = 5 ∧ n = 0 then some V else none) = none
    have hq : 1000000 ≤ q := hq
    rw [if_neg (by omega)]
  · rintro e' a' w' ⟨rfl, g', hg'⟩
    have hj := hg'.j
    have hold : ∀ q, q < w.heap.size → ownB V ≠ some q → g'.tag q = (gRound N0 w V).tag q ∧ w'.heap[q]? = w.heap[q]? := fun q hq hne => by
      refine hj.old q ?_
      show (gRound N0 w V).tag q = _ ∨ (gRound N0 w V).tag q = _
      rw [htag]
      by_cases h : q < N0
      · exact .inl (if_pos h)
      · rw [if_neg h, if_neg hne, if_pos hq]
        exact .inr rfl
    obtain ⟨rfl, c, hc, r2⟩ := q78_inv r2
    · refine ⟨rfl, hg'.z, hg'.d, fun t ht => hg'.k t ht, fun q hq hne => (hold q hq hne).2, hj.size, hj.os, hj.tape, hj.output, hj.drawn, _, rfl, ?_⟩
      have ht := hg'.t 5
      rw [hc] at ht
      have ht : denL κ g' w' c (a'.tmps.getD 5 undef) := ht
      obtain ⟨o1, o2⟩ := ownOf_den (e := 9) hg'.m.row (by kernel_rfl) ht r2
      have o1 : Owns w' 9 1 (a'.tmps.getD 5 undef) R.length (List.map Value.string R) := by
        rw [← show (List.map (κ 9).raw R).flatten = List.map Value.string R from raw9 R]
        exact o1
      refine ⟨o1, ?_, fun q hq => ?_⟩
      · rcases o1.2 with ⟨_, A, e⟩ | ⟨_, _, _, _, _, e, _⟩ <;> (rw [e]; rfl)
      · obtain ⟨r, _, hr⟩ := o2 q hq
        rcases Nat.lt_or_ge q w.heap.size with h | h
        · by_cases hne : ownB V = some q
          · exact .inl hne
          · have h3 := (hold q h hne).1
            rw [hr, htag] at h3
            rw [if_neg hne] at h3
            split at h3
            · cases h3
            · first | cases h3 | (split at h3 <;> cases h3)
        · exact .inr h
end Go.Proofs.Ytkbhbiceojmnaaa.E
/-
  Owing's loop. No condition.
-/
namespace Go.Proofs.Ytkbhbiceojmnaaa.E
open Go
set_option linter.unusedVariables false
set_option linter.unusedSimpArgs false
def wpSeq (P : Program) (Q : Exit → Act → World → Prop) : List Oper → Act → World → Prop
  | [], a, w => Q .normal a w
  | o :: l, a, w => o.wp P a w (wpSeq P Q l) Q
theorem wpSeq_ops {P : Program} {ops : Array Oper} {Q : Exit → Act → World → Prop} (hg : ∀ o ∈ ops.toList, o.guard = none) : ∀ (k n : Nat) (a : Act) (w : World), k + n = ops.size → wpSeq P Q (ops.toList.drop k) a w → wpOps P ops Q (List.range' k n) a w
  | k, 0, a, w, h, hw => by
    rw [List.drop_eq_nil_of_le (by simp; omega)] at hw
    exact hw
  | k, n + 1, a, w, h, hw => by
    have hk : k < ops.toList.length := by simp; omega
    rw [List.drop_eq_getElem_cons hk] at hw
    have ho : ops[k]? = some ops.toList[k] := by simp
    have hgk := hg _ (List.getElem_mem hk)
    rw [List.range'_succ]
    unfold wpOps
    rw [ho]
    simp only
    have hwant : Region.wanted ops.toList[k] (yielded ops a.tmps) = true := by unfold Region.wanted; rw [hgk]
    rw [hwant, if_pos rfl]
    exact .inl (Oper.wp_mono (fun a w h' => wpSeq_ops hg (k + 1) n a w (by omega) h') hw)
theorem region_seq {P : Program} {id : Nat} {ops : Array Oper} {Q : Exit → Act → World → Prop} {a : Act} {w : World} (hg : ∀ o ∈ ops.toList, o.guard = none) (h : wpSeq P Q ops.toList a w) : (Code.region id ops false).wp P Q a w := by
  refine wp_region ?_
  rw [List.range_eq_range']
  exact wpSeq_ops hg 0 ops.size a w (by omega) (by simpa using h)
noncomputable def cR (n : Nat) : Code := match loopAt Try.f19 0, n with
  | .seq r5 _, 5 => r5
  | .seq _ (.seq _ (.block _ (.seq r6 _))), 6 => r6
  | _, _ => .skip
noncomputable def rOps : Code → Array Oper | .region _ ops _ => ops | _ => #[]
theorem body_eq : loopAt Try.f19 0 = .seq (cR 5) (.seq (.cond (.tmp 16) .skip (.exit 0)) (.block 1 (.seq (cR 6) c78))) := by kernel_rfl
theorem r5_eq : ∃ o1 o2 : Oper, cR 5 = .region 5 #[o1, o2] false ∧ (o1.op = .next (.tmp 14) false ∧ o1.dst = some 15 ∧ o1.guard = none) ∧ (o2.op = .extract (.tmp 15) 0 ∧ o2.dst = some 16 ∧ o2.guard = none) :=
  ⟨(rOps (cR 5))[0]!, (rOps (cR 5))[1]!, by kernel_rfl, ⟨by kernel_rfl, by kernel_rfl, by kernel_rfl⟩, ⟨by kernel_rfl, by kernel_rfl, by kernel_rfl⟩⟩
theorem r6_eq : ∃ o1 o2 o3 o4 o5 : Oper, cR 6 = .region 6 #[o1, o2, o3, o4, o5] false ∧ (o1.op = .entry (.tmp 14) ∧ o1.dst = some 17 ∧ o1.guard = none) ∧ (o2.op = .extract (.tmp 17) 0 ∧ o2.dst = some 18 ∧ o2.guard = none) ∧ (o3.op = .extract (.tmp 17) 1 ∧ o3.dst = some 19 ∧ o3.guard = none) ∧ (o4.op = .assign (.tmp 18) ∧ o4.dst = some 6 ∧ o4.guard = none) ∧ (o5.op = .assign (.tmp 19) ∧ o5.dst = some 7 ∧ o5.guard = none) :=
  ⟨(rOps (cR 6))[0]!, (rOps (cR 6))[1]!, (rOps (cR 6))[2]!, (rOps (cR 6))[3]!, (rOps (cR 6))[4]!, by kernel_rfl, ⟨by kernel_rfl, by kernel_rfl, by kernel_rfl⟩, ⟨by kernel_rfl, by kernel_rfl, by kernel_rfl⟩, ⟨by kernel_rfl, by kernel_rfl, by kernel_rfl⟩, ⟨by kernel_rfl, by kernel_rfl, by kernel_rfl⟩, ⟨by kernel_rfl, by kernel_rfl, by kernel_rfl⟩⟩
/-- A map's entries with what they stand for. -/
abbrev TE : Type := List (MapEntry × ByteArray × Acc)
theorem ents_zip {w : World} : ∀ {es : List MapEntry} {M : MapL} {fps : List Nat}, Ents w es M fps → ∃ T : TE, T.map Prod.fst = es ∧ T.map Prod.snd = M ∧ ∀ x ∈ T, x.1.key = .string x.2.1 ∧ ∃ pk fp, x.1.val = .pointer (some ⟨pk, 0, none⟩) ∧ AccD w pk x.2.2 fp ∧ ∀ q ∈ fp, q ∈ fps := by
  intro es M fps h
  induction h with
  | nil => exact ⟨[], rfl, rfl, fun x hx => by cases hx⟩
  | @cons e es k a M p fp fps h1 h2 h3 _ ih =>
    obtain ⟨T, t1, t2, t3⟩ := ih
    refine ⟨(e, k, a) :: T, by simp [t1], by simp [t2], fun x hx => ?_⟩
    rcases List.mem_cons.1 hx with rfl | hx
    · exact ⟨h1, p, fp, h2, h3, fun q hq => List.mem_append_left _ hq⟩
    · obtain ⟨k1, pk, fp', k2, k3, k4⟩ := t3 x hx
      exact ⟨k1, pk, fp', k2, k3, fun q hq => List.mem_append_right _ (k4 q hq)⟩
def picked (day : Int) (vis : TE) : List ByteArray := (vis.filter fun x => owes day x.2.2).map (·.2.1)
/-- What stands at the loop's head. -/
structure OwI (w : World) (p it m clock : Nat) (day : Int) (es : List MapEntry) (T : TE) (a : Act) (w' : World) (vis : TE) (V : Value) : Prop where
  sz : a.tmps.size = Try.f19.ntmps
  df : a.defers = []
  t1 : a.tmps.getD 1 undef = .int .i64 day
  t5 : a.tmps.getD 5 undef = V
  t14 : a.tmps.getD 14 undef = .pointer (some ⟨it, 0, none⟩)
  own : OwnS w' V (picked day vis)
  one : V.oneCell' = true
  blk : ∀ q, ownB V = some q → it < q
  same : ∀ q, q < it → w'.heap[q]? = w.heap[q]?
  iter : w'.heap[it]? = some (.mapIter (some m) clock (vis.map (·.1.born)).toArray clock)
  os : w'.os = w.os
  tape : w'.tape = w.tape
  output : w'.output = w.output
  drawn : w.drawn ≤ w'.drawn
  sub : ∀ x ∈ vis, x ∈ T
  nodup : (vis.map (·.1.born)).Nodup
theorem put_get {a : Act} {d : Nat} {v : Value} (h : d < a.tmps.size) (i : Nat) : (a.put (some d) v).tmps.getD i undef = if i = d then v else a.tmps.getD i undef := by
  rw [put_getD a (some d) v i (fun d' e => by injection e with e; omega)]
  by_cases e : i = d
  · rw [if_pos e, if_pos (by rw [e])]
  · rw [if_neg e, if_neg (by intro h; injection h with h; exact e h.symm)]
theorem put_sz (a : Act) (d : Option Nat) (v : Value) : (a.put d v).tmps.size = a.tmps.size ∧ (a.put d v).defers = a.defers := by cases d <;> simp [Act.put]
theorem f19_n : Try.f19.ntmps = 44 := by kernel_rfl
end Go.Proofs.Ytkbhbiceojmnaaa.E
/-
  A round of Owing's loop. No condition.
-/
namespace Go.Proofs.Ytkbhbiceojmnaaa.E
open Go
set_option linter.unusedVariables false
set_option linter.unusedSimpArgs false
theorem accD_at {w w' : World} {pk N : Nat} {a : Acc} {fp : List Nat} (h : AccD w pk a fp) (hf : ∀ q ∈ fp, q < N) (hs : ∀ q, q < N → w'.heap[q]? = w.heap[q]?) : AccD w' pk a fp := accD_same h fun q hq => hs q (hf q hq)
theorem round_wp {w w' : World} {p it m clock : Nat} {day : Int} {es : List MapEntry} {T vis : TE} {a : Act} {V : Value} {Q : Exit → Act → World → Prop} (hI : OwI w p it m clock day es T a w' vis V) (hmap : w.heap[m]? = some (.map es.toArray clock)) (hm : m < it) (hT1 : T.map Prod.fst = es)
    (hT : ∀ x ∈ T, x.1.key = .string x.2.1 ∧ ∃ pk fp, x.1.val = .pointer (some ⟨pk, 0, none⟩) ∧ AccD w pk x.2.2 fp ∧ ∀ q ∈ fp, q < it) (hB : Born es clock) (hlen : T.length ≤ 1000000) (hvl : vis.length ≤ T.length)
    (hout : ∀ a', (∀ e ∈ es, e.born ∈ vis.map (·.1.born)) → OwI w p it m clock day es T a' w' vis V → Q (.exit 0) a' w')
    (hnext : ∀ a' w'' x V', x ∈ T → x.1.born ∉ vis.map (·.1.born) → OwI w p it m clock day es T a' w'' (vis ++ [x]) V' → Q .normal a' w'') : (loopAt Try.f19 0).wp Try.prog Q a w' := by
  have hmap' : w'.heap[m]? = some (.map es.toArray clock) := by rw [hI.same m hm]; exact hmap
  have hsz : a.tmps.size = 44 := by rw [hI.sz, f19_n]
  have ev14 : a.eval (.tmp 14) = .pointer (some ⟨it, 0, none⟩) := hI.t14
  obtain ⟨o1, o2, r5, ⟨p1, p2, p3⟩, ⟨p4, p5, p6⟩⟩ := r5_eq
  obtain ⟨n1, n2, n3, n4, n5, r6, ⟨q1, q2, q3⟩, ⟨q4, q5, q6⟩, ⟨q7, q8, q9⟩, ⟨q10, q11, q12⟩, ⟨q13, q14, q15⟩⟩ := r6_eq
  rw [body_eq, r5]
  refine wp_seq (region_seq (by simp [p3, p6]) ?_)
  rcases next_at (P := Try.prog) o1.type hI.iter hmap' (fun x hx => hB.2 x (by simpa using hx)) with ⟨hl, hrun⟩ | ⟨e, he, d, hd, hrun⟩
  · refine wp_value (v := .tuple #[.bool false]) (w' := w') (by simp [execOp, p1, ev14, hrun]) ?_
    rw [p2]
    have ev15 : (a.put (some 15) (.tuple #[.bool false])).eval (.tmp 15) = .tuple #[.bool false] := (put_get (by omega) 15).trans (if_pos rfl)
    refine wp_value (v := .bool false) (w' := w') (by simp [execOp, p4, ev15, Instr.extract]) ?_
    rw [p5]
    refine wp_seq (wp_cond_false ((put_get (by rw [(put_sz _ _ _).1]; omega) 16).trans (if_pos rfl)) (wp_exit ?_))
    have hg : ∀ t, t ≠ 15 → t ≠ 16 → ((a.put (some 15) (.tuple #[.bool false])).put (some 16) (.bool false)).tmps.getD t undef = a.tmps.getD t undef := fun t h1 h2 => by
      rw [put_get (by rw [(put_sz _ _ _).1]; omega), if_neg h2, put_get (by omega), if_neg h1]
    refine hout _ (fun e he => ?_) ⟨by rw [(put_sz _ _ _).1, (put_sz _ _ _).1]; exact hI.sz, by rw [(put_sz _ _ _).2, (put_sz _ _ _).2]; exact hI.df, by rw [hg 1 (by decide) (by decide)]; exact hI.t1, by rw [hg 5 (by decide) (by decide)]; exact hI.t5, by rw [hg 14 (by decide) (by decide)]; exact hI.t14, hI.own, hI.one, hI.blk, hI.same, hI.iter, hI.os, hI.tape, hI.output, hI.drawn, hI.sub, hI.nodup⟩
    by_cases hc : e.born ∈ vis.map (·.1.born)
    · exact hc
    · have : e ∈ (leftOf es.toArray (vis.map (·.1.born)).toArray).toList := by
        unfold leftOf
        simpa using ⟨he, by simpa using hc⟩
      rw [hl] at this
      simp at this
  · have heL : e ∈ es ∧ e.born ∉ vis.map (·.1.born) := by
      unfold leftOf at he
      simpa using he
    obtain ⟨x, hx, rfl⟩ : ∃ x ∈ T, x.1 = e := by
      rw [← hT1] at heL
      obtain ⟨x, h1, h2⟩ := List.mem_map.1 heL.1
      exact ⟨x, h1, h2⟩
    obtain ⟨hk, pk, fp, hv, hA, hfp⟩ := hT x hx
    have hpush : (vis.map (·.1.born)).toArray.push x.1.born = ((vis ++ [x]).map (·.1.born)).toArray := by simp
    rw [hpush] at hrun
    have hitlt : it < w'.heap.size := (Array.getElem?_eq_some_iff.1 hI.iter).1
    generalize hw1 : ({ w' with drawn := d, heap := w'.heap.setIfInBounds it (.mapIter (some m) clock ((vis ++ [x]).map (·.1.born)).toArray clock) } : World) = w1 at hrun
    have h1size : w1.heap.size = w'.heap.size := by rw [← hw1]; simp
    have h1it : w1.heap[it]? = some (.mapIter (some m) clock ((vis ++ [x]).map (·.1.born)).toArray clock) := by rw [← hw1]; simp [hitlt]
    have h1o : ∀ q, q ≠ it → w1.heap[q]? = w'.heap[q]? := fun q hq => by rw [← hw1]; simp [Ne.symm hq]
    have h1m : w1.heap[m]? = some (.map es.toArray clock) := by rw [h1o m (by omega)]; exact hmap'
    refine wp_value (v := .tuple #[.bool true, x.1.key, x.1.val]) (w' := w1) (by simp [execOp, p1, ev14, hrun]) ?_
    rw [p2]
    have ev15 : (a.put (some 15) (.tuple #[.bool true, x.1.key, x.1.val])).eval (.tmp 15) = .tuple #[.bool true, x.1.key, x.1.val] := (put_get (by omega) 15).trans (if_pos rfl)
    refine wp_value (v := .bool true) (w' := w1) (by simp [execOp, p4, ev15, Instr.extract]) ?_
    rw [p5]
    generalize ha2 : ((a.put (some 15) (.tuple #[.bool true, x.1.key, x.1.val])).put (some 16) (.bool true)) = a2
    have g2 : ∀ t, t ≠ 15 → t ≠ 16 → a2.tmps.getD t undef = a.tmps.getD t undef := fun t h1 h2 => by
      rw [← ha2, put_get (by rw [(put_sz _ _ _).1]; omega), if_neg h2, put_get (by omega), if_neg h1]
    have s2 : a2.tmps.size = 44 ∧ a2.defers = [] := by rw [← ha2, (put_sz _ _ _).1, (put_sz _ _ _).1, (put_sz _ _ _).2, (put_sz _ _ _).2]; exact ⟨hsz, hI.df⟩
    have e16 : a2.eval (.tmp 16) = .bool true := by rw [← ha2]; exact (put_get (by rw [(put_sz _ _ _).1]; omega) 16).trans (if_pos rfl)
    refine wp_seq (wp_cond_true e16 (wp_skip (wp_block ?_)))
    rw [r6]
    refine wp_seq (region_seq (by simp [q3, q6, q9, q12, q15]) ?_)
    have ev14' : a2.eval (.tmp 14) = .pointer (some ⟨it, 0, none⟩) := (g2 14 (by decide) (by decide)).trans hI.t14
    have hent := entry_at (P := Try.prog) (seen := (vis.map (·.1.born)).toArray) (e := x.1) (by rw [hpush]; exact h1it) h1m (by simpa using heL.1) (by simpa using hB.1)
    refine wp_value (v := .tuple #[x.1.key, x.1.val]) (w' := w1) (by simp [execOp, q1, ev14', hent]) ?_
    rw [q2]
    generalize ha3 : a2.put (some 17) (.tuple #[x.1.key, x.1.val]) = a3
    have g3 : ∀ t, a3.tmps.getD t undef = if t = 17 then .tuple #[x.1.key, x.1.val] else a2.tmps.getD t undef := fun t => by rw [← ha3]; exact put_get (by omega) t
    have s3 : a3.tmps.size = 44 ∧ a3.defers = [] := by rw [← ha3, (put_sz _ _ _).1, (put_sz _ _ _).2]; exact s2
    have ev17 : a3.eval (.tmp 17) = .tuple #[x.1.key, x.1.val] := (g3 17).trans (if_pos rfl)
    refine wp_value (v := x.1.key) (w' := w1) (by simp [execOp, q4, ev17, Instr.extract]) ?_
    rw [q5]
    generalize ha4 : a3.put (some 18) x.1.key = a4
    have g4 : ∀ t, a4.tmps.getD t undef = if t = 18 then x.1.key else a3.tmps.getD t undef := fun t => by rw [← ha4]; exact put_get (by omega) t
    have s4 : a4.tmps.size = 44 ∧ a4.defers = [] := by rw [← ha4, (put_sz _ _ _).1, (put_sz _ _ _).2]; exact s3
    have ev17' : a4.eval (.tmp 17) = .tuple #[x.1.key, x.1.val] := (g4 17).trans ((if_neg (by decide)).trans ((g3 17).trans (if_pos rfl)))
    refine wp_value (v := x.1.val) (w' := w1) (by simp [execOp, q7, ev17', Instr.extract]) ?_
    rw [q8]
    generalize ha5 : a4.put (some 19) x.1.val = a5
    have g5 : ∀ t, a5.tmps.getD t undef = if t = 19 then x.1.val else a4.tmps.getD t undef := fun t => by rw [← ha5]; exact put_get (by omega) t
    have s5 : a5.tmps.size = 44 ∧ a5.defers = [] := by rw [← ha5, (put_sz _ _ _).1, (put_sz _ _ _).2]; exact s4
    have ev18 : a5.eval (.tmp 18) = x.1.key := (g5 18).trans ((if_neg (by decide)).trans ((g4 18).trans (if_pos rfl)))
    refine wp_value (v := x.1.key) (w' := w1) (by simp [execOp, q10, ev18]) ?_
    rw [q11]
    generalize ha6 : a5.put (some 6) x.1.key = a6
    have g6 : ∀ t, a6.tmps.getD t undef = if t = 6 then x.1.key else a5.tmps.getD t undef := fun t => by rw [← ha6]; exact put_get (by omega) t
    have s6 : a6.tmps.size = 44 ∧ a6.defers = [] := by rw [← ha6, (put_sz _ _ _).1, (put_sz _ _ _).2]; exact s5
    have ev19 : a6.eval (.tmp 19) = x.1.val := (g6 19).trans ((if_neg (by decide)).trans ((g5 19).trans (if_pos rfl)))
    refine wp_value (v := x.1.val) (w' := w1) (by simp [execOp, q13, ev19]) ?_
    rw [q14]
    generalize ha7 : a6.put (some 7) x.1.val = a7
    have g7 : ∀ t, a7.tmps.getD t undef = if t = 7 then x.1.val else a6.tmps.getD t undef := fun t => by rw [← ha7]; exact put_get (by omega) t
    have s7 : a7.tmps.size = 44 ∧ a7.defers = [] := by rw [← ha7, (put_sz _ _ _).1, (put_sz _ _ _).2]; exact s6
    have gg : ∀ t, t ≠ 15 → t ≠ 16 → t ≠ 17 → t ≠ 18 → t ≠ 19 → t ≠ 6 → t ≠ 7 → a7.tmps.getD t undef = a.tmps.getD t undef := fun t z1 z2 z3 z4 z5 z6 z7 => by
      rw [g7, if_neg z7, g6, if_neg z6, g5, if_neg z5, g4, if_neg z4, g3, if_neg z3, g2 t z1 z2]
    have hob : ∀ q, ownB V = some q → q ≠ it := fun q hq => by have := hI.blk q hq; omega
    have hown1 : OwnS w1 V (picked day vis) := owns_same hI.own fun q hq => h1o q (hob q hq)
    have hpl : (picked day vis).length ≤ 1000000 := by
      unfold picked
      rw [List.length_map]
      exact Nat.le_trans (List.length_filter_le _ _) (by omega)
    have hA1 : AccD w1 pk x.2.2 fp := accD_at hA hfp fun q hq => by rw [h1o q (by omega)]; exact hI.same q hq
    refine wp_mono (body_wp (a := a7) (w := w1) (N0 := it) (day := day) (V := V) (L := picked day vis) (k := x.2.1) (ac := x.2.2) (fp := fp) (pk := pk) (it := it) (by rw [s7.1, f19_n]) s7.2 ((gg 1 (by decide) (by decide) (by decide) (by decide) (by decide) (by decide) (by decide)).trans hI.t1) ((gg 5 (by decide) (by decide) (by decide) (by decide) (by decide) (by decide) (by decide)).trans hI.t5) ((g7 6).trans ((if_neg (by decide)).trans ((g6 6).trans ((if_pos rfl).trans hk)))) ((g7 7).trans ((if_pos rfl).trans hv)) (by omega) hA1 hfp hown1 hI.one (fun q hq => Nat.le_of_lt (hI.blk q hq)) hpl) ?_
    rintro en a8 w2 ⟨rfl, b1, b2, b3, b4, b5, b6, b7, b8, b9, V', b10, b11, b12, b13⟩
    refine hnext a8 w2 x V' hx heL.2 ⟨by rw [b1, s7.1, f19_n], b2, ?_, b10, ?_, ?_, b12, fun q hq => ?_, fun q hq => ?_, ?_, by rw [b6, ← hw1]; exact hI.os, by rw [b7, ← hw1]; exact hI.tape, by rw [b8, ← hw1]; exact hI.output, ?_, fun y hy => ?_, ?_⟩
    · rw [b3 1 (by simp)]
      exact (gg 1 (by decide) (by decide) (by decide) (by decide) (by decide) (by decide) (by decide)).trans hI.t1
    · rw [b3 14 (by simp)]
      exact (gg 14 (by decide) (by decide) (by decide) (by decide) (by decide) (by decide) (by decide)).trans hI.t14
    · have : picked day (vis ++ [x]) = (bif owes day x.2.2 then picked day vis ++ [x.2.1] else picked day vis) := by
        unfold picked
        cases ho : owes day x.2.2 <;> simp [ho]
      rw [this]
      exact b11
    · rcases b13 q hq with h | h
      · exact hI.blk q h
      · omega
    · rw [b4 q (by omega) (fun h => by have := hI.blk q h; omega), h1o q (by omega)]
      exact hI.same q hq
    · rw [b4 it (by omega) (fun h => by have := hI.blk it h; omega)]
      exact h1it
    · have hdw : w1.drawn = d := by rw [← hw1]
      have := hI.drawn
      omega
    · rcases List.mem_append.1 hy with hy | hy
      · exact hI.sub y hy
      · rw [List.mem_singleton.1 hy]; exact hx
    · rw [List.map_append, List.nodup_append]
      refine ⟨hI.nodup, by simp, fun b hb c hc e => ?_⟩
      simp only [List.map_cons, List.map_nil, List.mem_singleton] at hc
      subst hc e
      exact heL.2 hb
end Go.Proofs.Ytkbhbiceojmnaaa.E
/-
  slices.Sort of texts, at this program. No condition. (The laying of the shelf's contract is the kit's own print.)
-/
namespace Go.Proofs
open Go.Shelf
def Try.sortS_ren : Go.Shelf.Ren := ⟨fun | 190 => 33 | 125 => 39 | 258 => 43 | 128 => 53 | 129 => 54 | 302 => 57 | 303 => 58 | 304 => 59 | 305 => 60 | 306 => 61 | 307 => 62 | 308 => 63 | 309 => 64 | 310 => 65 | 333 => 71 | 329 => 67 | 330 => 68 | 334 => 72 | 335 => 73 | 336 => 74 | 344 => 76 | n => n, fun | 31 => 41 | 9 => 9 | 3 => 3 | 46 => 80 | 0 => 0 | 51 => 98 | 53 => 100 | 4 => 4 | 183 => 91 | 182 => 90 | 131 => 95 | 5 => 5 | 218 => 109 | 222 => 113 | 228 => 118 | 229 => 119 | n => n, fun | n => n⟩
theorem Try.sortS : Go.Proofs.Lays.n190 Try.prog Try.sortS_ren := {
  mixed := by kernel_rfl
  f125 := Try.func39.trans (congrArg some (by kernel_rfl))
  f128 := Try.func53.trans (congrArg some (by kernel_rfl))
  f129 := Try.func54.trans (congrArg some (by kernel_rfl))
  f190 := Try.func33.trans (congrArg some (by kernel_rfl))
  f258 := Try.func43.trans (congrArg some (by kernel_rfl))
  f302 := Try.func57.trans (congrArg some (by kernel_rfl))
  f303 := Try.func58.trans (congrArg some (by kernel_rfl))
  f304 := Try.func59.trans (congrArg some (by kernel_rfl))
  f305 := Try.func60.trans (congrArg some (by kernel_rfl))
  f306 := Try.func61.trans (congrArg some (by kernel_rfl))
  f307 := Try.func62.trans (congrArg some (by kernel_rfl))
  f308 := Try.func63.trans (congrArg some (by kernel_rfl))
  f309 := Try.func64.trans (congrArg some (by kernel_rfl))
  f310 := Try.func65.trans (congrArg some (by kernel_rfl))
  f329 := Try.func67.trans (congrArg some (by kernel_rfl))
  f330 := Try.func68.trans (congrArg some (by kernel_rfl))
  f333 := Try.func71.trans (congrArg some (by kernel_rfl))
  f334 := Try.func72.trans (congrArg some (by kernel_rfl))
  f335 := Try.func73.trans (congrArg some (by kernel_rfl))
  f336 := Try.func74.trans (congrArg some (by kernel_rfl))
  f344 := Try.func76.trans (congrArg some (by kernel_rfl))
  t0 := Try.underlying0
  a0 := Try.isAgg0
  z0 := Try.sizeOf0
  v0 := Try.zeroValue0
  t3 := Try.underlying3
  a3 := Try.isAgg3
  z3 := Try.sizeOf3
  v3 := Try.zeroValue3
  t4 := Try.underlying4
  a4 := Try.isAgg4
  z4 := Try.sizeOf4
  v4 := Try.zeroValue4
  t5 := Try.underlying5
  a5 := Try.isAgg5
  z5 := Try.sizeOf5
  v5 := Try.zeroValue5
  t9 := Try.underlying9
  a9 := Try.isAgg9
  z9 := Try.sizeOf9
  v9 := Try.zeroValue9
  t31 := Try.underlying41
  a31 := Try.isAgg41
  z31 := Try.sizeOf41
  v31 := Try.zeroValue41
  t46 := Try.underlying80
  a46 := Try.isAgg80
  z46 := Try.sizeOf80
  v46 := Try.zeroValue80
  t51 := Try.underlying98
  a51 := Try.isAgg98
  z51 := Try.sizeOf98
  v51 := Try.zeroValue98
  t53 := Try.underlying100
  a53 := Try.isAgg100
  z53 := Try.sizeOf100
  v53 := Try.zeroValue100
  t131 := Try.underlying95
  a131 := Try.isAgg95
  z131 := Try.sizeOf95
  v131 := Try.zeroValue95
  t182 := Try.underlying90
  a182 := Try.isAgg90
  z182 := Try.sizeOf90
  v182 := Try.zeroValue90
  t183 := Try.underlying91
  a183 := Try.isAgg91
  z183 := Try.sizeOf91
  v183 := Try.zeroValue91
  t218 := Try.underlying109
  a218 := Try.isAgg109
  z218 := Try.sizeOf109
  v218 := Try.zeroValue109
  t222 := Try.underlying113
  a222 := Try.isAgg113
  z222 := Try.sizeOf113
  v222 := Try.zeroValue113
  t228 := Try.underlying118
  a228 := Try.isAgg118
  z228 := Try.sizeOf118
  v228 := Try.zeroValue118
  t229 := Try.underlying119
  a229 := Try.isAgg119
  z229 := Try.sizeOf119
  v229 := Try.zeroValue119 }
end Go.Proofs
namespace Go.Proofs.Ytkbhbiceojmnaaa.E
open Go Go.Shelf Go.RowKit Go.Lib Go.Sort
set_option linter.unusedVariables false
set_option linter.unusedSimpArgs false
theorem putRow_heap {α : Type} [Inhabited α] (enc : α → Value) (w : World) (p o n : Nat) (d : Array α) (os : Array Obj) {cur : Array Value} {e : Nat} {fz : Nat × Nat} (hh : w.heap[p]? = some (.cells cur e fz)) :
    (grow (putRow enc (Sort.ahead w n) p o d) os).heap[p]? = some (.cells (putCells enc o d cur) e fz) ∧ ∀ q, q < w.heap.size → q ≠ p → (grow (putRow enc (Sort.ahead w n) p o d) os).heap[q]? = w.heap[q]? := by
  have hp : p < w.heap.size := (Array.getElem?_eq_some_iff.1 hh).1
  have e1 : ∀ q, q < w.heap.size → (grow (putRow enc (Sort.ahead w n) p o d) os).heap[q]? = (w.heap.modify p (onCells (putCells enc o d)))[q]? := fun q hq => by
    show ((w.heap.modify p (onCells (putCells enc o d))) ++ os)[q]? = _
    rw [Array.getElem?_append_left (by simpa using hq)]
  refine ⟨by rw [e1 p hp, Array.getElem?_modify, if_pos rfl, hh]; rfl, fun q hq hne => by rw [e1 q hq, Array.getElem?_modify, if_neg (Ne.symm hne)]⟩
theorem putCells_map {α : Type} [Inhabited α] (enc : α → Value) (o : Nat) (d : Array α) (cur : Array Value) : putCells enc o d cur = putCells id o (d.map enc) cur := by
  unfold putCells
  apply Array.ext (by simp)
  intro i h1 h2
  simp only [Array.getElem_mapIdx, Array.size_map]
  split
  · rename_i h
    rw [getElem!_pos d (i - o) (by omega), getElem!_pos (d.map enc) (i - o) (by simp; omega)]
    simp
  · rfl
def tl (s : ByteArray) : List UInt8 := s.data.toList
def ofl (l : List UInt8) : ByteArray := ⟨⟨l⟩⟩
/-- What slices.Sort answers at texts. -/
def sortB (L : List ByteArray) : List ByteArray := ((L.map tl).mergeSort fun x y => decide (x ≤ y)).map ofl
theorem sortB_len (L : List ByteArray) : (sortB L).length = L.length := by unfold sortB; rw [List.length_map, List.length_mergeSort, List.length_map]
theorem enc_ofl (l : List UInt8) : encStr l = .string (ofl l) := rfl
theorem enc_tl (s : ByteArray) : encStr (tl s) = .string s := rfl
theorem sort_calls {w : World} {V : Value} {L : List ByteArray} (hV : OwnS w V L) (hL : L.length ≤ 1000000) : Calls Try.prog 33 #[V] w fun e w' => e = .returned (.tuple #[]) ∧ OwnS w' V (sortB L) ∧ (∀ q, q < w.heap.size → ownB V ≠ some q → w'.heap[q]? = w.heap[q]?) ∧ w.heap.size ≤ w'.heap.size ∧ w'.os = w.os ∧ w'.tape = w.tape ∧ w'.output = w.output ∧ w.drawn ≤ w'.drawn := by
  have h0 : sortB [] = [] := by unfold sortB; simp
  rcases hV.2 with ⟨hl0, A, rfl⟩ | ⟨p, o, cap, cur, fz, rfl, hcap, hh, hfz, m1, m2, m3, m4⟩
  · have hl0 : L = [] := List.eq_nil_of_length_eq_zero hl0
    subst hl0
    refine (Any.slices_Sort_string_none Try.sortS A 0 w).mono ?_
    rintro e w' ⟨rfl, rfl⟩
    exact ⟨rfl, by rw [h0]; exact hV, fun _ _ _ => rfl, Nat.le_refl _, rfl, rfl, rfl, Nat.le_refl _⟩
  · have hp : p < w.heap.size := (Array.getElem?_eq_some_iff.1 hh).1
    rw [Nat.mul_one] at m3 m4
    have hcs : o + L.length ≤ cur.size := by omega
    have hH : Holds encStr w p o (L.map tl).toArray := by
      intro j hj
      have hj : j < L.length := by simpa using hj
      have e1 : cur[o + j]? = some (.string L[j]) := by
        have := congrArg (fun l : List Value => l[j]?) m4
        simp only [List.getElem?_take, if_pos hj, List.getElem?_drop, Array.getElem?_toList, List.getElem?_map, List.getElem?_eq_getElem hj, Option.map_some] at this
        exact this
      have e2 : encStr (L.map tl).toArray[j]! = .string L[j] := by
        rw [getElem!_pos (L.map tl).toArray j (by simpa using hj)]
        simp [enc_tl]
      rw [e2]
      constructor
      · unfold World.cell?
        simp [hh, e1]
      · unfold World.frozen?
        simp only [hh]
        rcases hfz with h | h
        · rw [h]; simp
        · have : ¬ fz.1 ≤ o + j := by omega
          simp [this]
    have hc := Any.slices_Sort_string Try.sortS p o cap (L.map tl) w hH hp (by rw [List.length_map]; omega)
    rw [List.length_map] at hc
    refine hc.mono ?_
    rintro e w' ⟨rfl, n, os, rfl⟩
    obtain ⟨s1, s2⟩ := putRow_heap encStr w p o n ((L.map tl).mergeSort fun x y => decide (x ≤ y)).toArray os hh
    have hsz : ((((L.map tl).mergeSort fun x y => decide (x ≤ y)).toArray).map encStr).size = L.length := by simp
    obtain ⟨c1, c2⟩ := putCells_take ((((L.map tl).mergeSort fun x y => decide (x ≤ y)).toArray).map encStr) cur o (by rw [hsz]; exact hcs)
    rw [putCells_map] at s1
    refine ⟨rfl, ⟨by simp, .inr ⟨p, o, cap, _, fz, by rw [sortB_len], hcap, s1, ?_, by rw [sortB_len]; exact m1, m2, by rw [c1, Nat.mul_one, m3], ?_⟩⟩, fun q hq hne => s2 q hq fun h => hne (by rw [h, ownB_pos hcap]), ?_, rfl, rfl, rfl, Nat.le_add_right _ _⟩
    · rw [c1]; exact hfz
    · rw [sortB_len, Nat.mul_one, ← hsz, c2]
      unfold sortB
      simp [Function.comp_def, enc_ofl]
    · show w.heap.size ≤ ((w.heap.modify p _) ++ os).size
      simp
end Go.Proofs.Ytkbhbiceojmnaaa.E
/-
  Owing, whole. No condition.
-/
namespace Go.Proofs.Ytkbhbiceojmnaaa.E
open Go
set_option linter.unusedVariables false
set_option linter.unusedSimpArgs false
theorem nodup_len {α : Type} [DecidableEq α] : ∀ {l1 l2 : List α}, l1.Nodup → (∀ x ∈ l1, x ∈ l2) → l1.length ≤ l2.length
  | [], _, _, _ => Nat.zero_le _
  | a :: l, l2, h, hs => by
    obtain ⟨h1, h2⟩ := List.nodup_cons.1 h
    have h3 := nodup_len h2 (l2 := l2.erase a) fun x hx => (List.mem_erase_of_ne (fun e => h1 (by rw [← e]; exact hx))).2 (hs x (by simp [hx]))
    rw [List.length_erase_of_mem (hs a (by simp))] at h3
    have : 0 < l2.length := List.length_pos_of_mem (hs a (by simp))
    simp only [List.length_cons]
    omega
theorem nodup_of_map {α β : Type} (f : α → β) : ∀ {l : List α}, (l.map f).Nodup → l.Nodup ∧ ∀ x ∈ l, ∀ y ∈ l, f x = f y → x = y
  | [], _ => ⟨.nil, fun x hx => by cases hx⟩
  | a :: l, h => by
    rw [List.map_cons, List.nodup_cons] at h
    obtain ⟨h1, h2⟩ := h
    obtain ⟨k1, k2⟩ := nodup_of_map f h2
    refine ⟨List.nodup_cons.2 ⟨fun hm => h1 (List.mem_map.2 ⟨a, hm, rfl⟩), k1⟩, fun x hx y hy e => ?_⟩
    rcases List.mem_cons.1 hx with h3 | h3
    · rcases List.mem_cons.1 hy with h4 | h4
      · rw [h3, h4]
      · exact absurd (List.mem_map.2 ⟨y, h4, by rw [← e, h3]⟩) h1
    · rcases List.mem_cons.1 hy with h4 | h4
      · exact absurd (List.mem_map.2 ⟨x, h3, by rw [e, h4]⟩) h1
      · exact k2 x h3 y h4 e
theorem wp_loop_eq {P : Program} {c : Code} (c' : Code) (h : c = c') {Q : Exit → Act → World → Prop} {a : Act} {w : World} (hw : (Code.loop c').wp P Q a w) : (Code.loop c).wp P Q a w := h ▸ hw
/-- All that the map holds is gone through, in whatever order. -/
theorem owing_loop {w : World} {p it m clock : Nat} {day : Int} {es : List MapEntry} {T : TE} {K : Act → World → Prop} {Q : Exit → Act → World → Prop} {a : Act} {w0 : World} {V0 : Value} (h0 : OwI w p it m clock day es T a w0 [] V0) (hmap : w.heap[m]? = some (.map es.toArray clock)) (hm : m < it) (hT1 : T.map Prod.fst = es)
    (hT : ∀ x ∈ T, x.1.key = .string x.2.1 ∧ ∃ pk fp, x.1.val = .pointer (some ⟨pk, 0, none⟩) ∧ AccD w pk x.2.2 fp ∧ ∀ q ∈ fp, q < it) (hB : Born es clock) (hlen : T.length ≤ 1000000)
    (hK : ∀ a' w' vis V, vis.Perm T → OwI w p it m clock day es T a' w' vis V → K a' w') : (Code.loop (loopAt Try.f19 0)).wp Try.prog (Exit.inBlock 0 (Exit.then K Q)) a w0 := by
  have hTn : (T.map (·.1.born)).Nodup := by
    have : T.map (·.1.born) = es.map (·.born) := by rw [← hT1, List.map_map]; rfl
    rw [this]; exact hB.1
  have hle : ∀ vis : TE, (∀ x ∈ vis, x ∈ T) → (vis.map (·.1.born)).Nodup → vis.length ≤ T.length := fun vis h1 h2 => by
    have := nodup_len h2 (l2 := T.map (·.1.born)) fun b hb => by
      obtain ⟨x, hx, rfl⟩ := List.mem_map.1 hb
      exact List.mem_map.2 ⟨x, h1 x hx, rfl⟩
    simpa using this
  refine wp_loop_ghost (fun n a w' => ∃ vis V, OwI w p it m clock day es T a w' vis V ∧ n = T.length - vis.length) T.length ⟨[], V0, h0, by simp⟩ ?_
  rintro n a w' ⟨vis, V, hI, rfl⟩
  have hv := hle vis hI.sub hI.nodup
  refine round_wp hI hmap hm hT1 hT hB hlen hv (fun a' hall hI' => ?_) (fun a' w'' x V' hx hnew hI' => ?_)
  · show Exit.inBlock 0 (Exit.then K Q) (.exit 0) a' w'
    simp only [Exit.inBlock, Exit.then, if_true]
    refine hK a' w' vis V ?_ hI'
    have nd : ∀ l : TE, (l.map (·.1.born)).Nodup → l.Nodup := fun l h => (nodup_of_map _ h).1
    refine (List.perm_ext_iff_of_nodup (nd _ hI'.nodup) (nd _ hTn)).2 fun x => ⟨hI'.sub x, fun hx => ?_⟩
    have hb := hall x.1 (by rw [← hT1]; exact List.mem_map.2 ⟨x, hx, rfl⟩)
    obtain ⟨y, hy, hyb⟩ := List.mem_map.1 hb
    have : y = x := (nodup_of_map _ hTn).2 y (hI'.sub y hy) x hx hyb
    rw [← this]; exact hy
  · have hv' := hle _ hI'.sub hI'.nodup
    simp only [List.length_append, List.length_singleton] at hv'
    exact ⟨T.length - (vis ++ [x]).length, by simp; omega, vis ++ [x], V', hI', rfl⟩
end Go.Proofs.Ytkbhbiceojmnaaa.E
/-
  Owing's contract. No condition.
-/
namespace Go.Proofs.Ytkbhbiceojmnaaa.E
open Go Go.Shelf Go.RowKit Go.Lib Go.Sort
set_option linter.unusedVariables false
set_option linter.unusedSimpArgs false
theorem owing_calls {m p clock : Nat} {n : Value} {es : List MapEntry} {T : TE} {day : Int} {w : World} (hp : w.heap[p]? = some (.cells #[.map (some m), n] 50 (0, 0))) (hm : w.heap[m]? = some (.map es.toArray clock)) (hT1 : T.map Prod.fst = es)
    (hT : ∀ x ∈ T, x.1.key = .string x.2.1 ∧ ∃ pk fp, x.1.val = .pointer (some ⟨pk, 0, none⟩) ∧ AccD w pk x.2.2 fp ∧ ∀ q ∈ fp, q < w.heap.size) (hB : Born es clock) (hlen : T.length ≤ 1000000) :
    Calls Try.prog 19 #[.pointer (some ⟨p, 0, none⟩), .int .i64 day] w fun e w' => ∃ vis V, vis.Perm T ∧ e = .returned V ∧ OwnS w' V (sortB (picked day vis)) ∧ V.oneCell' = true ∧ (∀ q, ownB V = some q → w.heap.size < q) ∧ (∀ q, q < w.heap.size → w'.heap[q]? = w.heap[q]?) ∧ w.heap.size ≤ w'.heap.size ∧ w'.os = w.os ∧ w'.tape = w.tape ∧ w'.output = w.output ∧ w.drawn ≤ w'.drawn := by
  have hc : w.cell? ⟨p, 0, none⟩ = some (.map (some m)) := by
    unfold World.cell?
    simp [hp]
  have hr := run_range_map (P := Try.prog) w 48 9 51 m es.toArray clock u48 hm
  go_enter Try.func19, Try.ntmps19
  go_wp2
  rename_i Q' K hK
  refine wp_loop_eq (loopAt Try.f19 0) (by kernel_rfl) ?_
  refine owing_loop (w := w) (p := p) (it := w.heap.size) (m := m) (clock := clock) (day := day) (es := es) (T := T) (V0 := .slice none 0 0) ⟨by rw [f19_n]; rfl, rfl, rfl, rfl, rfl, owns_none _ _ _ _, rfl, (fun q hq => by cases hq), (fun q hq => heap_alloc_old w _ hq), heap_alloc_new w _, rfl, rfl, rfl, Nat.le_refl _, (fun x hx => by cases hx), .nil⟩ hm (Array.getElem?_eq_some_iff.1 hm).1 hT1 hT hB hlen ?_
  intro a w' vis V hperm hI
  refine hK a w' ?_
  have hsz : a.tmps.size = 44 := by rw [hI.sz, f19_n]
  have hvl : vis.length = T.length := hperm.length_eq
  have hpl : (picked day vis).length ≤ 1000000 := by
    unfold picked
    rw [List.length_map]
    exact Nat.le_trans (List.length_filter_le _ _) (by omega)
  have ev5 : a.eval (.tmp 5) = V := hI.t5
  refine wp_seq (region_seq (by simp) ?_)
  refine wp_value (v := V) (w' := w') (by simp [execOp, ev5]) ?_
  generalize ha2 : a.put (some 41) V = a2
  have g2 : ∀ t, a2.tmps.getD t undef = if t = 41 then V else a.tmps.getD t undef := fun t => by rw [← ha2]; exact put_get (by omega) t
  have s2 : a2.tmps.size = 44 ∧ a2.defers = [] := by rw [← ha2, (put_sz _ _ _).1, (put_sz _ _ _).2]; exact ⟨hsz, hI.df⟩
  have ev41 : a2.eval (.tmp 41) = V := (g2 41).trans (if_pos rfl)
  refine wp_call (f := 33) (vals := #[V]) (Rp := fun v w2 => v = .tuple #[] ∧ OwnS w2 V (sortB (picked day vis)) ∧ (∀ q, q < w'.heap.size → ownB V ≠ some q → w2.heap[q]? = w'.heap[q]?) ∧ w'.heap.size ≤ w2.heap.size ∧ w2.os = w'.os ∧ w2.tape = w'.tape ∧ w2.output = w'.output ∧ w'.drawn ≤ w2.drawn) (by simp [execOp, resolve, Deferred.ofValue, invoke, ev41, show a2.eval (.func 33) = .func (.func 33) #[] #[] from rfl]) ?_ ?_
  · unfold Doc
    rw [run_enter Try.func33 (by kernel_rfl) (by kernel_rfl : Try.f33.body = some (bodyOf Try.f33))]
    exact (sort_calls hI.own hpl).mono fun e w2 h => ⟨_, h.1, rfl, h.2⟩
  · rintro v w2 ⟨rfl, c1, c2, c3, c4, c5, c6, c7⟩
    generalize ha3 : a2.put (some 42) (.tuple #[]) = a3
    have g3 : ∀ t, a3.tmps.getD t undef = if t = 42 then .tuple #[] else a2.tmps.getD t undef := fun t => by rw [← ha3]; exact put_get (by omega) t
    have s3 : a3.tmps.size = 44 ∧ a3.defers = [] := by rw [← ha3, (put_sz _ _ _).1, (put_sz _ _ _).2]; exact s2
    have ev5' : a3.eval (.tmp 5) = V := (g3 5).trans ((if_neg (by decide)).trans ((g2 5).trans ((if_neg (by decide)).trans hI.t5)))
    refine wp_seq (region_seq (by simp) ?_)
    refine wp_value (v := V) (w' := w2) (by simp [execOp, ev5']) ?_
    generalize ha4 : a3.put (some 43) V = a4
    have g4 : ∀ t, a4.tmps.getD t undef = if t = 43 then V else a3.tmps.getD t undef := fun t => by rw [← ha4]; exact put_get (by omega) t
    have s4 : a4.tmps.size = 44 ∧ a4.defers = [] := by rw [← ha4, (put_sz _ _ _).1, (put_sz _ _ _).2]; exact s3
    have ev43 : a4.eval (.tmp 43) = V := (g4 43).trans (if_pos rfl)
    refine wp_value (v := V) (w' := w2) (by simp [execOp, ev43]) ?_
    generalize ha5 : a4.put (some 4) V = a5
    have e4 : a5.tmps.getD 4 undef = V := by rw [← ha5]; exact (put_get (by omega) 4).trans (if_pos rfl)
    have s5 : a5.defers = [] := by rw [← ha5, (put_sz _ _ _).2]; exact s4.2
    refine wp_ret ?_
    refine bodyPost_ret (results_tmp rfl _ _ _) s5 ?_
    have hlt : w.heap.size < w'.heap.size := (Array.getElem?_eq_some_iff.1 hI.iter).1
    refine ⟨vis, V, hperm, by rw [e4], c1, hI.one, hI.blk, fun q hq => ?_, by omega, by rw [c4]; exact hI.os, by rw [c5]; exact hI.tape, by rw [c6]; exact hI.output, Nat.le_trans hI.drawn c7⟩
    rw [c2 q (by omega) (fun h => by have := hI.blk q h; omega)]
    exact hI.same q hq
end Go.Proofs.Ytkbhbiceojmnaaa.E
/-
  Owing is Sound. No condition.
-/
namespace Go.Proofs.Ytkbhbiceojmnaaa.E
open Go
set_option linter.unusedVariables false
set_option linter.unusedSimpArgs false
theorem sortB_perm {L L' : List ByteArray} (h : L.Perm L') : sortB L = sortB L' := by
  unfold sortB
  congr 1
  have htr : ∀ a b c : List UInt8, decide (a ≤ b) = true → decide (b ≤ c) = true → decide (a ≤ c) = true := fun a b c h1 h2 => decide_eq_true (List.le_trans (of_decide_eq_true h1) (of_decide_eq_true h2))
  have hto : ∀ a b : List UInt8, (decide (a ≤ b) || decide (b ≤ a)) = true := fun a b => by
    rcases List.le_total a b with h | h <;> simp [h]
  refine List.Perm.eq_of_pairwise (le := fun x y => decide (x ≤ y) = true) ?_ (List.pairwise_mergeSort htr hto _) (List.pairwise_mergeSort htr hto _) (((List.mergeSort_perm _ _).trans (h.map tl)).trans (List.mergeSort_perm _ _).symm)
  intro a b _ _ h1 h2
  exact List.le_antisymm (of_decide_eq_true h1) (of_decide_eq_true h2)
theorem picked_perm {day : Int} {T vis : TE} (h : vis.Perm T) : sortB (picked day vis) = sortB (((T.map Prod.snd).filter fun e => owes day e.2).map Prod.fst) := by
  have e : ((T.map Prod.snd).filter fun e => owes day e.2).map Prod.fst = picked day T := by
    unfold picked
    rw [List.filter_map, List.map_map]
    rfl
  rw [e]
  exact sortB_perm ((h.filter _).map _)
def fOwing (x : TL × Int × Unit) : Option (List ByteArray × TL × Unit) := bif decide (x.1.1.length ≤ 1000000) then some (sortB ((x.1.1.filter fun e => owes x.2.1 e.2).map Prod.fst), x.1, ()) else none
def iOwing : Fr τ (T900 × Int × Unit) := .ob 0 900 (.val 1 (.int .i64) .nil)
def oOwing : Fr τ (List T9 × T900 × Unit) := .own 1000 9 (.ob 0 900 .nil)
def cOwing : Ctr τ := ⟨iOwing, oOwing, fOwing, 0⟩
theorem owing_sound : Sound κ Try.prog cOwing 19 := by
  intro x y hxy g0 w vals hfree hfresh hM htin hlen hargs
  obtain ⟨⟨M, n⟩, day, u⟩ := x
  replace hxy : fOwing ((M, n), day, ()) = some y := hxy
  unfold fOwing at hxy
  obtain ⟨hc, hxy⟩ := bif_els hxy
  injection hxy with hxy
  subst hxy
  have hc : M.length ≤ 1000000 := of_decide_eq_true hc
  replace hlen : vals.length = 2 := hlen
  match vals, hlen with
  | [v0, v1], _ =>
    obtain ⟨p, hp, rfl⟩ := hargs 0 v0 rfl
    obtain rfl : v1 = .int .i64 day := hargs 1 v1 rfl
    have hL := led_blk hM rfl
    have hL' := hL
    obtain ⟨p', m, es, clock, fps, b1, b2, b3, b4, b5, b6, b7, b8⟩ := hL'
    rw [hp] at b1
    injection b1 with b1
    subst b1
    have inFP : ∀ q ∈ p :: m :: fps, q < w.heap.size := fun q hq => by
      rcases Nat.lt_or_ge q w.heap.size with h | h
      · exact h
      · have := (hfree q).1 h
        rw [b7 q hq] at this
        cases this
    obtain ⟨T, t1, t2, t3⟩ := ents_zip b4
    have t2 : T.map Prod.snd = M := t2
    have hTl : T.length ≤ 1000000 := by
      have : T.length = M.length := by rw [← t2, List.length_map]
      omega
    have hrun := owing_calls (day := day) b2 b3 t1 (fun x hx => by
      obtain ⟨h1, pk, fp, h2, h3, h4⟩ := t3 x hx
      exact ⟨h1, pk, fp, h2, h3, fun q hq => inFP q (by simp [h4 q hq])⟩) b8 hTl
    unfold Doc
    rw [run_enter Try.func19 (by kernel_rfl) (by kernel_rfl : Try.f19.body = some (bodyOf Try.f19))]
    refine hrun.mono ?_
    rintro en w' ⟨vis, V, hperm, rfl, c1, c2, c3, c4, c5, c6, c7, c8, c9⟩
    rw [picked_perm hperm, t2] at c1
    have hlt := c1.lt
    have lt0 : ∀ q, g0.tag q ≠ .free → q < w.heap.size := fun q hq => by
      rcases Nat.lt_or_ge q w.heap.size with h | h
      · exact h
      · exact absurd ((hfree q).1 h) hq
    refine ⟨V, rfl, ⟨g0.bn, fun r v => if r = 1000 ∧ v = 0 then some V else none, fun q => if q < w.heap.size then g0.tag q else if ownB V = some q then .row 1000 else if q < w'.heap.size then .fgn else .free⟩, [V], ⟨fun q hq => ?_, fun q hq => ?_, c5, c6, c7, c8, c9⟩, ⟨mm_led (ledD_mono' hL (fun _ h => h) fun q hq => ?_), fun q r e => ?_⟩, rfl, rfl, fun j u hu => ?_, fun t u ht hu => ?_⟩
    · have h := lt0 q (by rcases hq with h | h <;> rw [h] <;> simp)
      exact ⟨if_pos h, c4 q h⟩
    · dsimp only
      rw [if_neg (by omega), if_neg (fun e => by have := hlt q e; omega), if_neg (by omega)]
    · have h := lt0 q (by rw [hq]; simp)
      exact ⟨(if_pos h).trans hq, c4 q h⟩
    · have e : tab none [(1000, some (⟨9, sortB ((M.filter fun e => owes day e.2).map Prod.fst), 0, false⟩ : Row τ))] q = some r := e
      by_cases e1 : q = 1000
      · subst e1
        rw [tab_cons, if_pos rfl] at e
        injection e with e
        subst e
        refine ⟨V, ⟨rfl, fun k hk => ?_⟩, ?_⟩
        · show (if 1000 = 1000 ∧ k = 0 then some V else none) = none
          have hk : 0 < k := hk
          rw [if_neg (by omega)]
        · rw [if_neg (by simp)]
          refine ⟨_, raw_all2 (by kernel_rfl : (κ 9).flat = true) _, ?_, fun q hq => ?_⟩
          · rw [raw9]
            exact c1
          · have := c3 q hq
            dsimp only
            rw [if_neg (by omega), if_pos hq]
      · rw [tab_cons, if_neg e1] at e
        cases e
    · match j, hu with
      | 0, hu => injection hu with hu; subst hu; exact ⟨rfl, c2⟩
    · have ht : t ∈ [0] := ht
      rw [List.mem_singleton] at ht
      subst ht
      injection hu with hu
      subst hu
      exact ⟨p, hp, rfl⟩
end Go.Proofs.Ytkbhbiceojmnaaa.E
namespace Go.Proofs.Ytkbhbiceojmnaaa.E
open Go
set_option linter.unusedVariables false
set_option maxRecDepth 100000
abbrev A7 : Type := (Unit)
abbrev B7 : Type := (Bool × Unit)
def i7 : Fr τ A7 := .nil
def o7 : Fr τ B7 := (.val 1000 .bool .nil)
def G7 (c8 : Unit → Option (T900 × Unit)) (c11 : (T900 × ByteArray × Int × Int × Int × Unit) → Option (Int × T900 × Unit)) (c9 : (T900 × ByteArray × Int × Unit) → Option (Int × Int × T900 × Unit)) (c13 : (T900 × ByteArray × Unit) → Option (Int × T900 × Unit)) (c16 : (T900 × ByteArray × Unit) → Option (List T45 × T900 × Unit)) (c15 : A15 → Option B15) (c19 : (T900 × Int × Unit) → Option (List T9 × T900 × Unit)) (c18 : A18 → Option B18) : Nat → Option (Ct τ) := tabG [(8, ({ cNew with f := c8 } : Ctr τ)), (11, ({ cPost with f := c11 } : Ctr τ)), (9, ({ cPay with f := c9 } : Ctr τ)), (13, ({ cBal with f := c13 } : Ctr τ)), (16, ({ cOpen with f := c16 } : Ctr τ)), (15, (⟨i15, o15, c15, 0⟩ : Ctr τ)), (19, ({ cOwing with f := c19 } : Ctr τ)), (18, (⟨i18, o18, c18, 0⟩ : Ctr τ))]
def M7 (c8 : Unit → Option (T900 × Unit)) (c11 : (T900 × ByteArray × Int × Int × Int × Unit) → Option (Int × T900 × Unit)) (c9 : (T900 × ByteArray × Int × Unit) → Option (Int × Int × T900 × Unit)) (c13 : (T900 × ByteArray × Unit) → Option (Int × T900 × Unit)) (c16 : (T900 × ByteArray × Unit) → Option (List T45 × T900 × Unit)) (c15 : A15 → Option B15) (c19 : (T900 × Int × Unit) → Option (List T9 × T900 × Unit)) (c18 : A18 → Option B18) : A7 → Option B7 := fun () => ((c8 ()).bind fun ⟨⟨y0_0, y0_1⟩, ()⟩ => ((c11 ((y0_0, y0_1), ({ data := #[97] }, (2, (9, (100, ())))))).bind fun ⟨y1_0, ⟨⟨y1_1, y1_2⟩, ()⟩⟩ => ((c11 ((y1_1, y1_2), ({ data := #[97] }, (1, (9, (50, ())))))).bind fun ⟨y2_0, ⟨⟨y2_1, y2_2⟩, ()⟩⟩ => ((c9 ((y2_1, y2_2), ({ data := #[97] }, (60, ())))).bind fun ⟨y3_0, ⟨y3_1, ⟨⟨y3_2, y3_3⟩, ()⟩⟩⟩ => ((c9 ((y3_2, y3_3), ({ data := #[98] }, (5, ())))).bind fun ⟨y4_0, ⟨y4_1, ⟨⟨y4_2, y4_3⟩, ()⟩⟩⟩ => (bif y1_0 == 0 then (bif y2_0 == 0 then (bif y3_1 == 0 then (bif y3_0 == 0 then (bif y4_1 == 250 then ((c13 ((y4_2, y4_3), ({ data := #[97] }, ()))).bind fun ⟨y10_0, ⟨⟨y10_1, y10_2⟩, ()⟩⟩ => (bif y10_0 == 90 then ((c16 ((y10_1, y10_2), ({ data := #[97] }, ()))).bind fun ⟨y12_0, ⟨⟨y12_1, y12_2⟩, ()⟩⟩ => ((c15 (y12_0, ([(2, 9, 90)], ()))).bind fun ⟨y13, ()⟩ => (bif y13 then ((c19 ((y12_1, y12_2), (9, ()))).bind fun ⟨y15_0, ⟨⟨y15_1, y15_2⟩, ()⟩⟩ => ((c18 (y15_0, ([{ data := #[97] }], ()))).bind fun ⟨y16, ()⟩ => (some (y16, ())))) else (some (false, ()))))) else (some (false, ())))) else (some (false, ()))) else (some (false, ()))) else (some (false, ()))) else (some (false, ()))) else (some (false, ()))))))))
def N7 : A7 → Option B7 := M7 cNew.f cPost.f cPay.f cBal.f cOpen.f N15 cOwing.f N18
def C7 : Ctr τ := ⟨i7, o7, N7, 0⟩
theorem g7 : GOK κ Try.prog (G7 cNew.f cPost.f cPay.f cBal.f cOpen.f N15 cOwing.f N18) := (gok_cons new_sound (keeps0 rfl) (gok_cons post_sound (keeps0 rfl) (gok_cons pay_sound (keeps0 rfl) (gok_cons bal_sound (keeps0 rfl) (gok_cons open_sound (keeps0 rfl) (gok_cons s15 (keeps0 rfl) (gok_cons owing_sound (keeps0 rfl) (gok_cons s18 (keeps0 rfl) gok_nil))))))))
theorem lall7 : ∀ Z : Zn, Z.rl = C7.o.keeps → Try.f7.ntmps ≤ Z.nt → ∀ p ∈ loops 0 (bodyOf Try.f7), ∀ C, (tabL []) p.1 = some C → LoopOK κ Try.prog Z p.2 C := fun Z h n => fun p hp => (by cases (show p ∈ ([] : List (Nat × Code)) from hp))
theorem e7 : ∀ (c8 : Unit → Option (T900 × Unit)) (c11 : (T900 × ByteArray × Int × Int × Int × Unit) → Option (Int × T900 × Unit)) (c9 : (T900 × ByteArray × Int × Unit) → Option (Int × Int × T900 × Unit)) (c13 : (T900 × ByteArray × Unit) → Option (Int × T900 × Unit)) (c16 : (T900 × ByteArray × Unit) → Option (List T45 × T900 × Unit)) (c15 : A15 → Option B15) (c19 : (T900 × Int × Unit) → Option (List T9 × T900 × Unit)) (c18 : A18 → Option B18) x, M7 c8 c11 c9 c13 c16 c15 c19 c18 x = fnE Try.prog κ (G7 c8 c11 c9 c13 c16 c15 c19 c18) (tabL []) Try.f7 i7 o7 x := fun c8 c11 c9 c13 c16 c15 c19 c18 x => by kernel_rfl
theorem s7 : Sound κ Try.prog C7 7 := fn_sound (S := (tabL [])) (F := Try.f7) (code := bodyOf Try.f7) (by kernel_rfl) g7 Try.func7 (by kernel_rfl) (by kernel_rfl) (by kernel_rfl) lall7 (by kernel_rfl) (by kernel_rfl) fun x y h => (e7 cNew.f cPost.f cPay.f cBal.f cOpen.f N15 cOwing.f N18 x).symm.trans h
end Go.Proofs.Ytkbhbiceojmnaaa.E
namespace Go.Proofs.Ytkbhbiceojmnaaa.E
open Go
set_option linter.unusedVariables false
set_option maxRecDepth 100000
abbrev A4 : Type := ((List T31) × ByteArray × Unit)
abbrev B4 : Type := (Bool × Unit)
def i4 : Fr τ A4 := (.val 0 (.sl 31) (.val 1 .str .nil))
def o4 : Fr τ B4 := (.val 1000 .bool .nil)
def G4 (c7 : A7 → Option B7) (c8 : Unit → Option (T900 × Unit)) (c9 : (T900 × ByteArray × Int × Unit) → Option (Int × Int × T900 × Unit)) (c11 : (T900 × ByteArray × Int × Int × Int × Unit) → Option (Int × T900 × Unit)) (c16 : (T900 × ByteArray × Unit) → Option (List T45 × T900 × Unit)) (c13 : (T900 × ByteArray × Unit) → Option (Int × T900 × Unit)) : Nat → Option (Ct τ) := tabG [(7, (⟨i7, o7, c7, 0⟩ : Ctr τ)), (8, ({ cNew with f := c8 } : Ctr τ)), (9, ({ cPay with f := c9 } : Ctr τ)), (11, ({ cPost with f := c11 } : Ctr τ)), (16, ({ cOpen with f := c16 } : Ctr τ)), (13, ({ cBal with f := c13 } : Ctr τ))]
abbrev LA4_2 : Type := ((List T31) × ByteArray × T900 × Int × Int × (List T45) × Int × Int × Unit)
abbrev LB4_2 : Type := ((List T31) × ByteArray × T900 × Int × Int × (List T45) × Int × Unit) ⊕ (Bool × Unit)
def li4_2 : Fr τ LA4_2 := (.val 0 (.sl 31) (.val 1 .str (.ob 5 900 (.val 6 (.int .i64) (.val 7 (.int .i64) (.own 10 45 (.val 11 (.int .i64) (.val 12 (.int .i64) .nil))))))))
def lo4_2 : Ot τ LB4_2 := .alt (.exit 2) (.val 0 (.sl 31) (.val 1 .str (.ob 5 900 (.val 6 (.int .i64) (.val 7 (.int .i64) (.own 10 45 (.val 11 (.int .i64) .nil))))))) (.one .ret (.val 4 .bool .nil))
def Q4_2 (c7 : A7 → Option B7) (c8 : Unit → Option (T900 × Unit)) (c9 : (T900 × ByteArray × Int × Unit) → Option (Int × Int × T900 × Unit)) (c11 : (T900 × ByteArray × Int × Int × Int × Unit) → Option (Int × T900 × Unit)) (c16 : (T900 × ByteArray × Unit) → Option (List T45 × T900 × Unit)) (c13 : (T900 × ByteArray × Unit) → Option (Int × T900 × Unit)) : LA4_2 → Option (LA4_2 ⊕ LB4_2) := fun ⟨script', ⟨account', ⟨⟨l'_0, l'_1⟩, ⟨sum', ⟨i', ⟨o', ⟨rest', ⟨k', ()⟩⟩⟩⟩⟩⟩⟩⟩ => (let v0 : Int := ↑(List.length o'); bif decide (k' < v0) then ((bif decide (0 ≤ k') && decide (k' < v0) then some () else none).bind fun () => ((o'[Int.toNat k']?).bind fun ⟨y2_0, ⟨y2_1, y2_2⟩⟩ => ((bif decide (0 ≤ k') && decide (k' < v0) then some () else none).bind fun () => ((o'[Int.toNat k']?).bind fun ⟨y4_0, ⟨y4_1, y4_2⟩⟩ => (bif decide (y4_2 ≤ 0) then (some (.inr (.inr (false, ())))) else (bif decide (k' > 0) then (let v1 : Int := k' - 1; let v2 : Int := IntKind.wrap IntKind.i64 v1; (bif decide (0 ≤ v2) && decide (v2 < v0) then some () else none).bind fun () => ((o'[Int.toNat v2]?).bind fun ⟨y8_0, ⟨y8_1, y8_2⟩⟩ => ((bif decide (0 ≤ k') && decide (k' < v0) then some () else none).bind fun () => ((o'[Int.toNat k']?).bind fun ⟨y10_0, ⟨y10_1, y10_2⟩⟩ => (bif decide (y8_1 > y10_1) then (some (.inr (.inr (false, ())))) else ((bif decide (0 ≤ v2) && decide (v2 < v0) then some () else none).bind fun () => ((o'[Int.toNat v2]?).bind fun ⟨y13_0, ⟨y13_1, y13_2⟩⟩ => ((bif decide (0 ≤ k') && decide (k' < v0) then some () else none).bind fun () => ((o'[Int.toNat k']?).bind fun ⟨y15_0, ⟨y15_1, y15_2⟩⟩ => (bif y13_1 == y15_1 then ((bif decide (0 ≤ v2) && decide (v2 < v0) then some () else none).bind fun () => ((o'[Int.toNat v2]?).bind fun ⟨y18_0, ⟨y18_1, y18_2⟩⟩ => ((bif decide (0 ≤ k') && decide (k' < v0) then some () else none).bind fun () => ((o'[Int.toNat k']?).bind fun ⟨y20_0, ⟨y20_1, y20_2⟩⟩ => (bif decide (y18_0 ≥ y20_0) then (some (.inr (.inr (false, ())))) else (let v3 : Int := rest' + y2_2; let v4 : Int := IntKind.wrap IntKind.i64 v3; let v5 : Int := k' + 1; let v6 : Int := IntKind.wrap IntKind.i64 v5; some (.inl (script', (account', ((l'_0, l'_1), (sum', (i', (o', (v4, (v6, ()))))))))))))))) else (let v3 : Int := rest' + y2_2; let v4 : Int := IntKind.wrap IntKind.i64 v3; let v5 : Int := k' + 1; let v6 : Int := IntKind.wrap IntKind.i64 v5; some (.inl (script', (account', ((l'_0, l'_1), (sum', (i', (o', (v4, (v6, ())))))))))))))))))))) else (let v1 : Int := rest' + y2_2; let v2 : Int := IntKind.wrap IntKind.i64 v1; let v3 : Int := k' + 1; let v4 : Int := IntKind.wrap IntKind.i64 v3; some (.inl (script', (account', ((l'_0, l'_1), (sum', (i', (o', (v2, (v4, ())))))))))))))))) else (some (.inr (.inl (script', (account', ((l'_0, l'_1), (sum', (i', (o', (rest', ())))))))))))
def R4_2 : LA4_2 → Option (LA4_2 ⊕ LB4_2) := Q4_2 N7 cNew.f cPay.f cPost.f cOpen.f cBal.f
def L4_2 : Lc τ := ⟨li4_2, itrs R4_2, lo4_2⟩
abbrev LA4_0 : Type := ((List T31) × ByteArray × T900 × Int × Int × Unit)
abbrev LB4_0 : Type := (ByteArray × T900 × Int × Unit) ⊕ (Bool × Unit)
def li4_0 : Fr τ LA4_0 := (.val 0 (.sl 31) (.val 1 .str (.ob 5 900 (.val 6 (.int .i64) (.val 7 (.int .i64) .nil)))))
def lo4_0 : Ot τ LB4_0 := .alt (.exit 0) (.val 1 .str (.ob 5 900 (.val 6 (.int .i64) .nil))) (.one .ret (.val 4 .bool .nil))
def Q4_0 (c7 : A7 → Option B7) (c8 : Unit → Option (T900 × Unit)) (c9 : (T900 × ByteArray × Int × Unit) → Option (Int × Int × T900 × Unit)) (c11 : (T900 × ByteArray × Int × Int × Int × Unit) → Option (Int × T900 × Unit)) (c16 : (T900 × ByteArray × Unit) → Option (List T45 × T900 × Unit)) (c13 : (T900 × ByteArray × Unit) → Option (Int × T900 × Unit)) (l4_2 : LA4_2 → Option LB4_2) : LA4_0 → Option (LA4_0 ⊕ LB4_0) := fun ⟨script', ⟨account', ⟨⟨l'_0, l'_1⟩, ⟨sum', ⟨i', ()⟩⟩⟩⟩⟩ => (let v0 : Int := ↑(List.length script'); bif decide (i' < v0) then (bif decide (i' < 600) then ((bif decide (0 ≤ i') then script'[Int.toNat i']? else none).bind fun ⟨y2_0, ⟨y2_1, ⟨y2_2, ⟨y2_3, y2_4⟩⟩⟩⟩ => (bif y2_0 then ((c9 ((l'_0, l'_1), (y2_1, (y2_4, ())))).bind fun ⟨y4_0, ⟨y4_1, ⟨⟨y4_2, y4_3⟩, ()⟩⟩⟩ => (bif !ByteArray.toList y2_1 == ByteArray.toList account' then (let v1 : Int := i' + 1; let v2 : Int := IntKind.wrap IntKind.i64 v1; some (.inl (script', (account', ((y4_2, y4_3), (sum', (v2, ()))))))) else (bif y4_1 != 0 then (let v1 : Int := i' + 1; let v2 : Int := IntKind.wrap IntKind.i64 v1; some (.inl (script', (account', ((y4_2, y4_3), (sum', (v2, ()))))))) else (bif y2_0 then ((c16 ((y4_2, y4_3), (account', ()))).bind fun ⟨y8_0, ⟨⟨y8_1, y8_2⟩, ()⟩⟩ => (let v1 : Int := sum' - y2_4; let v2 : Int := IntKind.wrap IntKind.i64 v1; (l4_2 (script', (account', ((y8_1, y8_2), (v2, (i', (y8_0, (0, (0, ()))))))))).bind fun y9 => (match y9 with | .inl ⟨y10_0, ⟨y10_1, ⟨⟨y10_2, y10_3⟩, ⟨y10_4, ⟨y10_5, ⟨y10_6, ⟨y10_7, ()⟩⟩⟩⟩⟩⟩⟩ => (let v3 : Int := ↑(List.length y10_6); bif decide (v3 > 0) then (bif y10_7 != y10_4 then (some (.inr (.inr (false, ())))) else (bif v3 == 0 then (bif decide (y10_4 > 0) then (some (.inr (.inr (false, ())))) else (let v4 : Int := y10_5 + 1; let v5 : Int := IntKind.wrap IntKind.i64 v4; some (.inl (y10_0, (y10_1, ((y10_2, y10_3), (y10_4, (v5, ())))))))) else (let v4 : Int := y10_5 + 1; let v5 : Int := IntKind.wrap IntKind.i64 v4; some (.inl (y10_0, (y10_1, ((y10_2, y10_3), (y10_4, (v5, ()))))))))) else (bif v3 == 0 then (bif decide (y10_4 > 0) then (some (.inr (.inr (false, ())))) else (let v4 : Int := y10_5 + 1; let v5 : Int := IntKind.wrap IntKind.i64 v4; some (.inl (y10_0, (y10_1, ((y10_2, y10_3), (y10_4, (v5, ())))))))) else (let v4 : Int := y10_5 + 1; let v5 : Int := IntKind.wrap IntKind.i64 v4; some (.inl (y10_0, (y10_1, ((y10_2, y10_3), (y10_4, (v5, ()))))))))) | .inr ⟨y10, ()⟩ => (some (.inr (.inr (y10, ()))))))) else ((c16 ((y4_2, y4_3), (account', ()))).bind fun ⟨y8_0, ⟨⟨y8_1, y8_2⟩, ()⟩⟩ => (let v1 : Int := sum' + y2_4; let v2 : Int := IntKind.wrap IntKind.i64 v1; (l4_2 (script', (account', ((y8_1, y8_2), (v2, (i', (y8_0, (0, (0, ()))))))))).bind fun y9 => (match y9 with | .inl ⟨y10_0, ⟨y10_1, ⟨⟨y10_2, y10_3⟩, ⟨y10_4, ⟨y10_5, ⟨y10_6, ⟨y10_7, ()⟩⟩⟩⟩⟩⟩⟩ => (let v3 : Int := ↑(List.length y10_6); bif decide (v3 > 0) then (bif y10_7 != y10_4 then (some (.inr (.inr (false, ())))) else (bif v3 == 0 then (bif decide (y10_4 > 0) then (some (.inr (.inr (false, ())))) else (let v4 : Int := y10_5 + 1; let v5 : Int := IntKind.wrap IntKind.i64 v4; some (.inl (y10_0, (y10_1, ((y10_2, y10_3), (y10_4, (v5, ())))))))) else (let v4 : Int := y10_5 + 1; let v5 : Int := IntKind.wrap IntKind.i64 v4; some (.inl (y10_0, (y10_1, ((y10_2, y10_3), (y10_4, (v5, ()))))))))) else (bif v3 == 0 then (bif decide (y10_4 > 0) then (some (.inr (.inr (false, ())))) else (let v4 : Int := y10_5 + 1; let v5 : Int := IntKind.wrap IntKind.i64 v4; some (.inl (y10_0, (y10_1, ((y10_2, y10_3), (y10_4, (v5, ())))))))) else (let v4 : Int := y10_5 + 1; let v5 : Int := IntKind.wrap IntKind.i64 v4; some (.inl (y10_0, (y10_1, ((y10_2, y10_3), (y10_4, (v5, ()))))))))) | .inr ⟨y10, ()⟩ => (some (.inr (.inr (y10, ()))))))))))) else ((c11 ((l'_0, l'_1), (y2_1, (y2_2, (y2_3, (y2_4, ())))))).bind fun ⟨y4_0, ⟨⟨y4_1, y4_2⟩, ()⟩⟩ => (bif !ByteArray.toList y2_1 == ByteArray.toList account' then (let v1 : Int := i' + 1; let v2 : Int := IntKind.wrap IntKind.i64 v1; some (.inl (script', (account', ((y4_1, y4_2), (sum', (v2, ()))))))) else (bif y4_0 != 0 then (let v1 : Int := i' + 1; let v2 : Int := IntKind.wrap IntKind.i64 v1; some (.inl (script', (account', ((y4_1, y4_2), (sum', (v2, ()))))))) else (bif y2_0 then ((c16 ((y4_1, y4_2), (account', ()))).bind fun ⟨y8_0, ⟨⟨y8_1, y8_2⟩, ()⟩⟩ => (let v1 : Int := sum' - y2_4; let v2 : Int := IntKind.wrap IntKind.i64 v1; (l4_2 (script', (account', ((y8_1, y8_2), (v2, (i', (y8_0, (0, (0, ()))))))))).bind fun y9 => (match y9 with | .inl ⟨y10_0, ⟨y10_1, ⟨⟨y10_2, y10_3⟩, ⟨y10_4, ⟨y10_5, ⟨y10_6, ⟨y10_7, ()⟩⟩⟩⟩⟩⟩⟩ => (let v3 : Int := ↑(List.length y10_6); bif decide (v3 > 0) then (bif y10_7 != y10_4 then (some (.inr (.inr (false, ())))) else (bif v3 == 0 then (bif decide (y10_4 > 0) then (some (.inr (.inr (false, ())))) else (let v4 : Int := y10_5 + 1; let v5 : Int := IntKind.wrap IntKind.i64 v4; some (.inl (y10_0, (y10_1, ((y10_2, y10_3), (y10_4, (v5, ())))))))) else (let v4 : Int := y10_5 + 1; let v5 : Int := IntKind.wrap IntKind.i64 v4; some (.inl (y10_0, (y10_1, ((y10_2, y10_3), (y10_4, (v5, ()))))))))) else (bif v3 == 0 then (bif decide (y10_4 > 0) then (some (.inr (.inr (false, ())))) else (let v4 : Int := y10_5 + 1; let v5 : Int := IntKind.wrap IntKind.i64 v4; some (.inl (y10_0, (y10_1, ((y10_2, y10_3), (y10_4, (v5, ())))))))) else (let v4 : Int := y10_5 + 1; let v5 : Int := IntKind.wrap IntKind.i64 v4; some (.inl (y10_0, (y10_1, ((y10_2, y10_3), (y10_4, (v5, ()))))))))) | .inr ⟨y10, ()⟩ => (some (.inr (.inr (y10, ()))))))) else ((c16 ((y4_1, y4_2), (account', ()))).bind fun ⟨y8_0, ⟨⟨y8_1, y8_2⟩, ()⟩⟩ => (let v1 : Int := sum' + y2_4; let v2 : Int := IntKind.wrap IntKind.i64 v1; (l4_2 (script', (account', ((y8_1, y8_2), (v2, (i', (y8_0, (0, (0, ()))))))))).bind fun y9 => (match y9 with | .inl ⟨y10_0, ⟨y10_1, ⟨⟨y10_2, y10_3⟩, ⟨y10_4, ⟨y10_5, ⟨y10_6, ⟨y10_7, ()⟩⟩⟩⟩⟩⟩⟩ => (let v3 : Int := ↑(List.length y10_6); bif decide (v3 > 0) then (bif y10_7 != y10_4 then (some (.inr (.inr (false, ())))) else (bif v3 == 0 then (bif decide (y10_4 > 0) then (some (.inr (.inr (false, ())))) else (let v4 : Int := y10_5 + 1; let v5 : Int := IntKind.wrap IntKind.i64 v4; some (.inl (y10_0, (y10_1, ((y10_2, y10_3), (y10_4, (v5, ())))))))) else (let v4 : Int := y10_5 + 1; let v5 : Int := IntKind.wrap IntKind.i64 v4; some (.inl (y10_0, (y10_1, ((y10_2, y10_3), (y10_4, (v5, ()))))))))) else (bif v3 == 0 then (bif decide (y10_4 > 0) then (some (.inr (.inr (false, ())))) else (let v4 : Int := y10_5 + 1; let v5 : Int := IntKind.wrap IntKind.i64 v4; some (.inl (y10_0, (y10_1, ((y10_2, y10_3), (y10_4, (v5, ())))))))) else (let v4 : Int := y10_5 + 1; let v5 : Int := IntKind.wrap IntKind.i64 v4; some (.inl (y10_0, (y10_1, ((y10_2, y10_3), (y10_4, (v5, ()))))))))) | .inr ⟨y10, ()⟩ => (some (.inr (.inr (y10, ()))))))))))))) else (some (.inr (.inl (account', ((l'_0, l'_1), (sum', ()))))))) else (some (.inr (.inl (account', ((l'_0, l'_1), (sum', ())))))))
def R4_0 : LA4_0 → Option (LA4_0 ⊕ LB4_0) := Q4_0 N7 cNew.f cPay.f cPost.f cOpen.f cBal.f (itrs R4_2)
def L4_0 : Lc τ := ⟨li4_0, itrs R4_0, lo4_0⟩
def M4 (c7 : A7 → Option B7) (c8 : Unit → Option (T900 × Unit)) (c9 : (T900 × ByteArray × Int × Unit) → Option (Int × Int × T900 × Unit)) (c11 : (T900 × ByteArray × Int × Int × Int × Unit) → Option (Int × T900 × Unit)) (c16 : (T900 × ByteArray × Unit) → Option (List T45 × T900 × Unit)) (c13 : (T900 × ByteArray × Unit) → Option (Int × T900 × Unit)) (l4_0 : LA4_0 → Option LB4_0) : A4 → Option B4 := fun ⟨script', ⟨account', ()⟩⟩ => ((c7 ()).bind fun ⟨y0, ()⟩ => (bif !y0 then (some (false, ())) else ((c8 ()).bind fun ⟨⟨y2_0, y2_1⟩, ()⟩ => ((l4_0 (script', (account', ((y2_0, y2_1), (0, (0, ())))))).bind fun y3 => (match y3 with | .inl ⟨y4_0, ⟨⟨y4_1, y4_2⟩, ⟨y4_3, ()⟩⟩⟩ => ((c13 ((y4_1, y4_2), (y4_0, ()))).bind fun ⟨y5_0, ⟨⟨y5_1, y5_2⟩, ()⟩⟩ => (some (y5_0 == y4_3, ()))) | .inr ⟨y4, ()⟩ => (some (y4, ())))))))
def N4 : A4 → Option B4 := M4 N7 cNew.f cPay.f cPost.f cOpen.f cBal.f (itrs R4_0)
def C4 : Ctr τ := ⟨i4, o4, N4, 0⟩
theorem g4 : GOK κ Try.prog (G4 N7 cNew.f cPay.f cPost.f cOpen.f cBal.f) := (gok_cons s7 (keeps0 rfl) (gok_cons new_sound (keeps0 rfl) (gok_cons pay_sound (keeps0 rfl) (gok_cons post_sound (keeps0 rfl) (gok_cons open_sound (keeps0 rfl) (gok_cons bal_sound (keeps0 rfl) gok_nil))))))
theorem le4_2 : ∀ (c7 : A7 → Option B7) (c8 : Unit → Option (T900 × Unit)) (c9 : (T900 × ByteArray × Int × Unit) → Option (Int × Int × T900 × Unit)) (c11 : (T900 × ByteArray × Int × Int × Int × Unit) → Option (Int × T900 × Unit)) (c16 : (T900 × ByteArray × Unit) → Option (List T45 × T900 × Unit)) (c13 : (T900 × ByteArray × Unit) → Option (Int × T900 × Unit)) x, Q4_2 c7 c8 c9 c11 c16 c13 x = run Try.prog κ (G4 c7 c8 c9 c11 c16 c13) (tabL []) 2 (loopAt Try.f4 1) (li4_2.build x) (rnd li4_2 lo4_2) := fun c7 c8 c9 c11 c16 c13 x => by kernel_rfl
theorem le4_0 : ∀ (c7 : A7 → Option B7) (c8 : Unit → Option (T900 × Unit)) (c9 : (T900 × ByteArray × Int × Unit) → Option (Int × Int × T900 × Unit)) (c11 : (T900 × ByteArray × Int × Int × Int × Unit) → Option (Int × T900 × Unit)) (c16 : (T900 × ByteArray × Unit) → Option (List T45 × T900 × Unit)) (c13 : (T900 × ByteArray × Unit) → Option (Int × T900 × Unit)) (l4_2 : LA4_2 → Option LB4_2) x, Q4_0 c7 c8 c9 c11 c16 c13 l4_2 x = run Try.prog κ (G4 c7 c8 c9 c11 c16 c13) (tabL [(2, (⟨li4_2, l4_2, lo4_2⟩ : Lc τ))]) 0 (loopAt Try.f4 0) (li4_0.build x) (rnd li4_0 lo4_0) := fun c7 c8 c9 c11 c16 c13 l4_2 x => by kernel_rfl
theorem linner4_2 : ∀ Z : Zn, Z.rl = [] → 159 ≤ Z.nt → ∀ p ∈ loops 2 (loopAt Try.f4 1), ∀ C, (tabL []) p.1 = some C → LoopOK κ Try.prog Z p.2 C := fun Z h n => fun p hp => (by cases (show p ∈ ([] : List (Nat × Code)) from hp))
theorem lk4_2 : ∀ Z : Zn, Z.rl = [] → 159 ≤ Z.nt → LoopOK κ Try.prog Z (loopAt Try.f4 1) L4_2 := fun Z h n => loop_ok (S := (tabL [])) R4_2 (by kernel_rfl) g4 (by rw [h]; exact dsts_mono n _ (by kernel_rfl)) (linner4_2 Z h n) (by kernel_rfl) (by kernel_rfl) (le4_2 N7 cNew.f cPay.f cPost.f cOpen.f cBal.f) itrs_rounds
theorem linner4_0 : ∀ Z : Zn, Z.rl = [] → 159 ≤ Z.nt → ∀ p ∈ loops 0 (loopAt Try.f4 0), ∀ C, (tabL [(2, L4_2)]) p.1 = some C → LoopOK κ Try.prog Z p.2 C := fun Z h n => all_loops [(2, loopAt Try.f4 1)] (by kernel_rfl) (all_cons (fun C hC => (Option.some.inj hC : L4_2 = C) ▸ lk4_2 Z h n) (fun _ h => by cases h))
theorem lk4_0 : ∀ Z : Zn, Z.rl = [] → 159 ≤ Z.nt → LoopOK κ Try.prog Z (loopAt Try.f4 0) L4_0 := fun Z h n => loop_ok (S := (tabL [(2, L4_2)])) R4_0 (by kernel_rfl) g4 (by rw [h]; exact dsts_mono n _ (by kernel_rfl)) (linner4_0 Z h n) (by kernel_rfl) (by kernel_rfl) (le4_0 N7 cNew.f cPay.f cPost.f cOpen.f cBal.f (itrs R4_2)) itrs_rounds
theorem lall4 : ∀ Z : Zn, Z.rl = C4.o.keeps → Try.f4.ntmps ≤ Z.nt → ∀ p ∈ loops 0 (bodyOf Try.f4), ∀ C, (tabL [(0, L4_0)]) p.1 = some C → LoopOK κ Try.prog Z p.2 C := fun Z h n => all_loops [(0, loopAt Try.f4 0), (2, loopAt Try.f4 1)] (by kernel_rfl) (all_cons (fun C hC => (Option.some.inj hC : L4_0 = C) ▸ lk4_0 Z h n) (all_cons (fun C hC => by cases hC) (fun _ h => by cases h)))
theorem e4 : ∀ (c7 : A7 → Option B7) (c8 : Unit → Option (T900 × Unit)) (c9 : (T900 × ByteArray × Int × Unit) → Option (Int × Int × T900 × Unit)) (c11 : (T900 × ByteArray × Int × Int × Int × Unit) → Option (Int × T900 × Unit)) (c16 : (T900 × ByteArray × Unit) → Option (List T45 × T900 × Unit)) (c13 : (T900 × ByteArray × Unit) → Option (Int × T900 × Unit)) (l4_0 : LA4_0 → Option LB4_0) x, M4 c7 c8 c9 c11 c16 c13 l4_0 x = fnE Try.prog κ (G4 c7 c8 c9 c11 c16 c13) (tabL [(0, (⟨li4_0, l4_0, lo4_0⟩ : Lc τ))]) Try.f4 i4 o4 x := fun c7 c8 c9 c11 c16 c13 l4_0 x => by kernel_rfl
theorem s4 : Sound κ Try.prog C4 4 := fn_sound (S := (tabL [(0, L4_0)])) (F := Try.f4) (code := bodyOf Try.f4) (by kernel_rfl) g4 Try.func4 (by kernel_rfl) (by kernel_rfl) (by kernel_rfl) lall4 (by kernel_rfl) (by kernel_rfl) fun x y h => (e4 N7 cNew.f cPay.f cPost.f cOpen.f cBal.f (itrs R4_0) x).symm.trans h
end Go.Proofs.Ytkbhbiceojmnaaa.E
namespace Go.Proofs.Ytkbhbiceojmnaaa.E
open Go
set_option linter.unusedVariables false
set_option maxRecDepth 100000
abbrev A5 : Type := ((List T31) × ByteArray × Int × Int × Unit)
abbrev B5 : Type := (Bool × Unit)
def i5 : Fr τ A5 := (.val 0 (.sl 31) (.val 1 .str (.val 2 (.int .i64) (.val 3 (.int .i64) .nil))))
def o5 : Fr τ B5 := (.val 1000 .bool .nil)
def G5 (c7 : A7 → Option B7) (c8 : Unit → Option (T900 × Unit)) (c9 : (T900 × ByteArray × Int × Unit) → Option (Int × Int × T900 × Unit)) (c11 : (T900 × ByteArray × Int × Int × Int × Unit) → Option (Int × T900 × Unit)) (c13 : (T900 × ByteArray × Unit) → Option (Int × T900 × Unit)) (c16 : (T900 × ByteArray × Unit) → Option (List T45 × T900 × Unit)) (c15 : A15 → Option B15) : Nat → Option (Ct τ) := tabG [(7, (⟨i7, o7, c7, 0⟩ : Ctr τ)), (8, ({ cNew with f := c8 } : Ctr τ)), (9, ({ cPay with f := c9 } : Ctr τ)), (11, ({ cPost with f := c11 } : Ctr τ)), (13, ({ cBal with f := c13 } : Ctr τ)), (16, ({ cOpen with f := c16 } : Ctr τ)), (15, (⟨i15, o15, c15, 0⟩ : Ctr τ))]
abbrev LA5_0 : Type := ((List T31) × ByteArray × Int × Int × T900 × T900 × Int × Unit)
abbrev LB5_0 : Type := (ByteArray × Int × Int × T900 × T900 × Unit)
def li5_0 : Fr τ LA5_0 := (.val 0 (.sl 31) (.val 1 .str (.val 2 (.int .i64) (.val 3 (.int .i64) (.ob 9 900 (.ob 10 900 (.val 11 (.int .i64) .nil)))))))
def lo5_0 : Ot τ LB5_0 := .one (.exit 0) (.val 1 .str (.val 2 (.int .i64) (.val 3 (.int .i64) (.ob 9 900 (.ob 10 900 .nil)))))
def Q5_0 (c7 : A7 → Option B7) (c8 : Unit → Option (T900 × Unit)) (c9 : (T900 × ByteArray × Int × Unit) → Option (Int × Int × T900 × Unit)) (c11 : (T900 × ByteArray × Int × Int × Int × Unit) → Option (Int × T900 × Unit)) (c13 : (T900 × ByteArray × Unit) → Option (Int × T900 × Unit)) (c16 : (T900 × ByteArray × Unit) → Option (List T45 × T900 × Unit)) (c15 : A15 → Option B15) : LA5_0 → Option (LA5_0 ⊕ LB5_0) := fun ⟨script', ⟨account', ⟨a', ⟨b', ⟨⟨l'_0, l'_1⟩, ⟨⟨m'_0, m'_1⟩, ⟨i', ()⟩⟩⟩⟩⟩⟩⟩ => (let v0 : Int := ↑(List.length script'); bif decide (i' < v0) then (bif decide (i' < 600) then ((bif decide (0 ≤ i') then script'[Int.toNat i']? else none).bind fun ⟨y2_0, ⟨y2_1, ⟨y2_2, ⟨y2_3, y2_4⟩⟩⟩⟩ => (bif y2_0 then ((c9 ((l'_0, l'_1), (y2_1, (y2_4, ())))).bind fun ⟨y4_0, ⟨y4_1, ⟨⟨y4_2, y4_3⟩, ()⟩⟩⟩ => ((c9 ((m'_0, m'_1), (y2_1, (y2_4, ())))).bind fun ⟨y5_0, ⟨y5_1, ⟨⟨y5_2, y5_3⟩, ()⟩⟩⟩ => (let v1 : Int := i' + 1; let v2 : Int := IntKind.wrap IntKind.i64 v1; some (.inl (script', (account', (a', (b', ((y4_2, y4_3), ((y5_2, y5_3), (v2, ()))))))))))) else ((c11 ((l'_0, l'_1), (y2_1, (y2_2, (y2_3, (y2_4, ())))))).bind fun ⟨y4_0, ⟨⟨y4_1, y4_2⟩, ()⟩⟩ => ((c11 ((m'_0, m'_1), (y2_1, (y2_2, (y2_3, (y2_4, ())))))).bind fun ⟨y5_0, ⟨⟨y5_1, y5_2⟩, ()⟩⟩ => (let v1 : Int := i' + 1; let v2 : Int := IntKind.wrap IntKind.i64 v1; some (.inl (script', (account', (a', (b', ((y4_1, y4_2), ((y5_1, y5_2), (v2, ()))))))))))))) else (some (.inr (account', (a', (b', ((l'_0, l'_1), ((m'_0, m'_1), ())))))))) else (some (.inr (account', (a', (b', ((l'_0, l'_1), ((m'_0, m'_1), ()))))))))
def R5_0 : LA5_0 → Option (LA5_0 ⊕ LB5_0) := Q5_0 N7 cNew.f cPay.f cPost.f cBal.f cOpen.f N15
def L5_0 : Lc τ := ⟨li5_0, itrs R5_0, lo5_0⟩
def M5 (c7 : A7 → Option B7) (c8 : Unit → Option (T900 × Unit)) (c9 : (T900 × ByteArray × Int × Unit) → Option (Int × Int × T900 × Unit)) (c11 : (T900 × ByteArray × Int × Int × Int × Unit) → Option (Int × T900 × Unit)) (c13 : (T900 × ByteArray × Unit) → Option (Int × T900 × Unit)) (c16 : (T900 × ByteArray × Unit) → Option (List T45 × T900 × Unit)) (c15 : A15 → Option B15) (l5_0 : LA5_0 → Option LB5_0) : A5 → Option B5 := fun ⟨script', ⟨account', ⟨a', ⟨b', ()⟩⟩⟩⟩ => ((c7 ()).bind fun ⟨y0, ()⟩ => (bif !y0 then (some (false, ())) else (bif decide (a' < 1) then (some (true, ())) else (bif decide (b' < 1) then (some (true, ())) else (bif decide (a' > 1000000000000000) then (some (true, ())) else (let v0 : Int := 1000000000000000 - a'; let v1 : Int := IntKind.wrap IntKind.i64 v0; bif decide (b' > v1) then (some (true, ())) else ((c8 ()).bind fun ⟨⟨y6_0, y6_1⟩, ()⟩ => ((c8 ()).bind fun ⟨⟨y7_0, y7_1⟩, ()⟩ => ((l5_0 (script', (account', (a', (b', ((y6_0, y6_1), ((y7_0, y7_1), (0, ())))))))).bind fun ⟨y8_0, ⟨y8_1, ⟨y8_2, ⟨⟨y8_3, y8_4⟩, ⟨⟨y8_5, y8_6⟩, ()⟩⟩⟩⟩⟩ => (let v2 : Int := y8_1 + y8_2; let v3 : Int := IntKind.wrap IntKind.i64 v2; (c9 ((y8_3, y8_4), (y8_0, (v3, ())))).bind fun ⟨y9_0, ⟨y9_1, ⟨⟨y9_2, y9_3⟩, ()⟩⟩⟩ => (bif y9_1 != 0 then (some (y9_0 == 0, ())) else ((c9 ((y8_5, y8_6), (y8_0, (y8_1, ())))).bind fun ⟨y11_0, ⟨y11_1, ⟨⟨y11_2, y11_3⟩, ()⟩⟩⟩ => ((c9 ((y11_2, y11_3), (y8_0, (y8_2, ())))).bind fun ⟨y12_0, ⟨y12_1, ⟨⟨y12_2, y12_3⟩, ()⟩⟩⟩ => (bif y11_1 == 0 then (bif y12_1 == 0 then (bif y9_0 == y12_0 then ((c13 ((y9_2, y9_3), (y8_0, ()))).bind fun ⟨y16_0, ⟨⟨y16_1, y16_2⟩, ()⟩⟩ => ((c13 ((y12_2, y12_3), (y8_0, ()))).bind fun ⟨y17_0, ⟨⟨y17_1, y17_2⟩, ()⟩⟩ => (bif y16_0 == y17_0 then ((c16 ((y16_1, y16_2), (y8_0, ()))).bind fun ⟨y19_0, ⟨⟨y19_1, y19_2⟩, ()⟩⟩ => ((c16 ((y17_1, y17_2), (y8_0, ()))).bind fun ⟨y20_0, ⟨⟨y20_1, y20_2⟩, ()⟩⟩ => ((c15 (y19_0, (y20_0, ()))).bind fun ⟨y21, ()⟩ => (some (y21, ()))))) else (some (false, ()))))) else (some (false, ()))) else (some (false, ()))) else (some (false, ()))))))))))))))))
def N5 : A5 → Option B5 := M5 N7 cNew.f cPay.f cPost.f cBal.f cOpen.f N15 (itrs R5_0)
def C5 : Ctr τ := ⟨i5, o5, N5, 0⟩
theorem g5 : GOK κ Try.prog (G5 N7 cNew.f cPay.f cPost.f cBal.f cOpen.f N15) := (gok_cons s7 (keeps0 rfl) (gok_cons new_sound (keeps0 rfl) (gok_cons pay_sound (keeps0 rfl) (gok_cons post_sound (keeps0 rfl) (gok_cons bal_sound (keeps0 rfl) (gok_cons open_sound (keeps0 rfl) (gok_cons s15 (keeps0 rfl) gok_nil)))))))
theorem le5_0 : ∀ (c7 : A7 → Option B7) (c8 : Unit → Option (T900 × Unit)) (c9 : (T900 × ByteArray × Int × Unit) → Option (Int × Int × T900 × Unit)) (c11 : (T900 × ByteArray × Int × Int × Int × Unit) → Option (Int × T900 × Unit)) (c13 : (T900 × ByteArray × Unit) → Option (Int × T900 × Unit)) (c16 : (T900 × ByteArray × Unit) → Option (List T45 × T900 × Unit)) (c15 : A15 → Option B15) x, Q5_0 c7 c8 c9 c11 c13 c16 c15 x = run Try.prog κ (G5 c7 c8 c9 c11 c13 c16 c15) (tabL []) 0 (loopAt Try.f5 0) (li5_0.build x) (rnd li5_0 lo5_0) := fun c7 c8 c9 c11 c13 c16 c15 x => by kernel_rfl
theorem linner5_0 : ∀ Z : Zn, Z.rl = [] → 143 ≤ Z.nt → ∀ p ∈ loops 0 (loopAt Try.f5 0), ∀ C, (tabL []) p.1 = some C → LoopOK κ Try.prog Z p.2 C := fun Z h n => fun p hp => (by cases (show p ∈ ([] : List (Nat × Code)) from hp))
theorem lk5_0 : ∀ Z : Zn, Z.rl = [] → 143 ≤ Z.nt → LoopOK κ Try.prog Z (loopAt Try.f5 0) L5_0 := fun Z h n => loop_ok (S := (tabL [])) R5_0 (by kernel_rfl) g5 (by rw [h]; exact dsts_mono n _ (by kernel_rfl)) (linner5_0 Z h n) (by kernel_rfl) (by kernel_rfl) (le5_0 N7 cNew.f cPay.f cPost.f cBal.f cOpen.f N15) itrs_rounds
theorem lall5 : ∀ Z : Zn, Z.rl = C5.o.keeps → Try.f5.ntmps ≤ Z.nt → ∀ p ∈ loops 0 (bodyOf Try.f5), ∀ C, (tabL [(0, L5_0)]) p.1 = some C → LoopOK κ Try.prog Z p.2 C := fun Z h n => all_loops [(0, loopAt Try.f5 0)] (by kernel_rfl) (all_cons (fun C hC => (Option.some.inj hC : L5_0 = C) ▸ lk5_0 Z h n) (fun _ h => by cases h))
theorem e5 : ∀ (c7 : A7 → Option B7) (c8 : Unit → Option (T900 × Unit)) (c9 : (T900 × ByteArray × Int × Unit) → Option (Int × Int × T900 × Unit)) (c11 : (T900 × ByteArray × Int × Int × Int × Unit) → Option (Int × T900 × Unit)) (c13 : (T900 × ByteArray × Unit) → Option (Int × T900 × Unit)) (c16 : (T900 × ByteArray × Unit) → Option (List T45 × T900 × Unit)) (c15 : A15 → Option B15) (l5_0 : LA5_0 → Option LB5_0) x, M5 c7 c8 c9 c11 c13 c16 c15 l5_0 x = fnE Try.prog κ (G5 c7 c8 c9 c11 c13 c16 c15) (tabL [(0, (⟨li5_0, l5_0, lo5_0⟩ : Lc τ))]) Try.f5 i5 o5 x := fun c7 c8 c9 c11 c13 c16 c15 l5_0 x => by kernel_rfl
theorem s5 : Sound κ Try.prog C5 5 := fn_sound (S := (tabL [(0, L5_0)])) (F := Try.f5) (code := bodyOf Try.f5) (by kernel_rfl) g5 Try.func5 (by kernel_rfl) (by kernel_rfl) (by kernel_rfl) lall5 (by kernel_rfl) (by kernel_rfl) fun x y h => (e5 N7 cNew.f cPay.f cPost.f cBal.f cOpen.f N15 (itrs R5_0) x).symm.trans h
end Go.Proofs.Ytkbhbiceojmnaaa.E
