/- A verified symbolic evaluator of programs over plain data: its definitions and the proof that what it computes, the machine does. No condition. -/
import Derived.Test.YtkbhbiceojmnaaaGE1
import Derived.Laws.Externs
import Derived.SizedLaws
import Derived.ChangeArms
import Derived.ChangeOld
import Derived.Deep.Slices
import Derived.WideShapes
import Derived.ChangeSame
import Derived.WalkKit
import Derived.ProofKit
import Derived.OpenShut
import Derived.ShutString
import Derived.Below
import Derived.Carry
import Derived.Shelf.SlSortCmp.NoneTotal
import Derived.Laws.Bits64
import Derived.Laws.BitsLemmas
import Derived.Laws.MathBits
namespace Go.Proofs.Ytkbhbiceojmnaaa.E
open Go
set_option linter.unusedVariables false
set_option linter.unusedSimpArgs false
set_option linter.unusedSectionVars false
variable {τ : Nat → Type} {κ : (e : Nat) → K τ (τ e)} {P : Program} {Γ : Nat → Option (Ct τ)}
theorem step_congr {D S : St τ} {i : Nat} {o : Oper} {ops : Array Oper} (hn : D.n = S.n) (ht : ∀ t ∈ o.looksAt ops, D.t t = S.t t) (hb : ∀ d, 2 * d ∈ accK S o.op → D.b d = S.b d) (hr : ∀ d, 2 * d + 1 ∈ accK S o.op → D.r d = S.r d) :
    stepE P κ Γ D i o = stepE P κ Γ S i o := by
  have hev : ∀ x ∈ o.op.operands, D.ev x = S.ev x := fun x hx => by
    cases x with
    | tmp t => exact ht t (List.mem_append_left _ (List.mem_filterMap.2 ⟨.tmp t, Array.mem_toList_iff.2 hx, rfl⟩))
    | _ => rfl
  have hmap : o.op.operands.toList.map D.ev = o.op.operands.toList.map S.ev := List.map_congr_left fun x hx => hev x (Array.mem_toList_iff.1 hx)
  have hk : accK D o.op = accK S o.op := by
    cases hbl : blind o.op with
    | true => unfold accK; rw [hbl]; rfl
    | false =>
    cases hdp : deep o.op with
    | false => unfold accK; rw [hbl, hdp, cond_false, cond_false, hmap]; rfl
    | true =>
    have hopen : accK S o.op = (o.op.operands.toList.map S.ev).flatMap fun x => keysS x ++ innerS S.b x := by unfold accK; rw [hbl, hdp]; rfl
    have hopen2 : accK D o.op = (o.op.operands.toList.map D.ev).flatMap fun x => keysS x ++ innerS D.b x := by unfold accK; rw [hbl, hdp]; rfl
    rw [hopen] at hb hr ⊢
    rw [hopen2]
    rw [hmap, List.flatMap_def, List.flatMap_def]
    congr 1
    refine List.map_congr_left fun x hx => ?_
    congr 1
    have hin : ∀ k ∈ keysS x, k ∈ accK S o.op := fun k hk => hopen ▸ List.mem_flatMap.2 ⟨x, hx, List.mem_append_left _ hk⟩
    have hin2 : ∀ k ∈ innerS S.b x, k ∈ accK S o.op := fun k hk => hopen ▸ List.mem_flatMap.2 ⟨x, hx, List.mem_append_right _ hk⟩
    -- cells that are looked at agree
    have hcell : ∀ d, 2 * d ∈ accK S o.op → cellsOf D.b d = cellsOf S.b d := fun d hd => by unfold cellsOf; rw [hb d (hopen ▸ hd)]
    have gen : ∀ (n : Nat) (cs : List (LV τ)), (∀ k ∈ keysL cs, k ∈ accK S o.op) → (∀ k ∈ innerN S.b n cs, k ∈ accK S o.op) → innerN D.b n cs = innerN S.b n cs := by
      intro n
      induction n with
      | zero => intro cs _ _; rfl
      | succ n ih =>
        intro cs h1 h2
        simp only [innerN, List.flatMap_def] at h2 ⊢
        congr 1
        refine List.map_congr_left fun c hc => ?_
        have hk : ∀ d, c = .mh d ∨ (∃ q, c = .ptr d q) ∨ (∃ t, c = .ip t d) → 2 * d ∈ accK S o.op := fun d hd => by
          refine h1 _ ?_
          have hmem : ∀ (l : List (LV τ)), c ∈ l → 2 * d ∈ keysL l := by
            intro l
            induction l with
            | nil => intro h; cases h
            | cons a l ih =>
              intro h
              rcases List.mem_cons.1 h with rfl | h
              · rcases hd with rfl | ⟨q, rfl⟩ | ⟨t, rfl⟩ <;> simp [keysL]
              · have := ih h
                cases a <;> simp [keysL, this]
          exact hmem cs hc
        have sub : ∀ k, k ∈ (match c with | .ptr d _ => keysL (cellsOf S.b d) ++ innerN S.b n (cellsOf S.b d) | .ip _ d => keysL (cellsOf S.b d) ++ innerN S.b n (cellsOf S.b d) | .mh d => (match S.b d with | some (.ob _ _ ks) => ks | _ => []) | _ => []) → k ∈ accK S o.op := fun k hk =>
          h2 k (List.mem_flatten.2 ⟨_, List.mem_map.2 ⟨c, hc, rfl⟩, hk⟩)
        cases c with
        | ptr d q =>
          simp only at sub ⊢
          rw [hcell d (hk d (.inr (.inl ⟨q, rfl⟩)))]
          rw [ih _ (fun k hk => sub k (List.mem_append_left _ hk)) (fun k hk => sub k (List.mem_append_right _ hk))]
        | ip t d =>
          simp only at sub ⊢
          rw [hcell d (hk d (.inr (.inr ⟨t, rfl⟩)))]
          rw [ih _ (fun k hk => sub k (List.mem_append_left _ hk)) (fun k hk => sub k (List.mem_append_right _ hk))]
        | mh d =>
          simp only
          rw [hb d (hopen ▸ hk d (.inl rfl))]
        | _ => rfl
    cases x with
    | tup _ => rfl
    | c x =>
      cases x with
      | lf x => exact gen 2 [x] (fun k hk => hin k hk) (fun k hk => hin2 k hk)
      | _ => rfl
  unfold stepE
  rw [hk, hn, opEff_congr hev]
  congr 1
  · funext d
    unfold limB
    cases e : has (accK S o.op) (2 * d) with
    | true => simp only [cond_true]; exact hb d (has_iff.1 e)
    | false => rfl
  · funext d
    unfold limR
    cases e : has (accK S o.op) (2 * d + 1) with
    | true => simp only [cond_true]; exact hr d (has_iff.1 e)
    | false => rfl
theorem want_congr {ops : Array Oper} {T T' : Nat → SV τ} {o : Oper} {b : Bool} (h : ∀ t ∈ o.looksAt ops, T t = T' t) (hw : Want ops T' o b) : Want ops T o b := by
  unfold Want at *
  cases hg : o.guard with
  | none => rw [hg] at hw; exact hw
  | some p =>
    obtain ⟨j, want⟩ := p
    rw [hg] at hw
    obtain ⟨d, hd, h2⟩ := hw
    refine ⟨d, hd, ?_⟩
    rw [h d]
    · exact h2
    · unfold Oper.looksAt
      rw [hg]
      refine List.mem_append_right _ ?_
      have hd : (ops[j]?).bind (·.dst) = some d := hd
      simp [hd]
/-! ### how many are left -/
def left (L : Nat → Bool) : Nat → Nat
  | 0 => 0
  | m + 1 => left L m + (bif L m then 0 else 1)
theorem left_same {L L' : Nat → Bool} : ∀ (m : Nat), (∀ k, k < m → L k = L' k) → left L m = left L' m
  | 0, _ => rfl
  | m + 1, h => by simp only [left]; rw [left_same m fun k hk => h k (Nat.lt_succ_of_lt hk), h m (Nat.lt_succ_self m)]
theorem left_add {L : Nat → Bool} {i : Nat} (hi : L i = false) : ∀ (m : Nat), i < m → left (fun k => L k || k == i) m + 1 = left L m
  | 0, h => by omega
  | m + 1, h => by
    simp only [left]
    rcases Nat.lt_or_ge i m with h1 | h1
    · have ih := left_add hi m h1
      have e : (m == i) = false := by simp; omega
      rw [e, Bool.or_false]
      omega
    · obtain rfl : i = m := by omega
      rw [left_same (L := fun k => L k || k == i) (L' := L) i fun k hk => by simp; omega, hi]
      simp
theorem left_zero {L : Nat → Bool} : ∀ (m : Nat), left L m = 0 → ∀ k, k < m → L k = true
  | 0, _, k, hk => by omega
  | m + 1, h, k, hk => by
    simp only [left] at h
    rcases Nat.lt_or_ge k m with h1 | h1
    · exact left_zero m (by omega) k h1
    · obtain rfl : k = m := by omega
      cases e : L k with
      | true => rfl
      | false => rw [e] at h; simp at h
section
variable {Z : Zn} {g : Gh} {a : Act} {w : World} {Q : Exit → Act → World → Prop} {ops : Array Oper} {m : List Nat} {u : Nat → Upd τ} {x : Nat → Bool} {s0 : St τ}
theorem getD_all {listed : Array Bool} {i : Nat} (hi : i < listed.size) : (fun k => (listed.setIfInBounds i true).getD k false) = fun k => listed.getD k false || k == i := by
  funext k
  rw [Array.getD_eq_getD_getElem?, Array.getD_eq_getD_getElem?, Array.getElem?_setIfInBounds]
  by_cases e : i = k
  · subst e
    simp [hi]
  · have : (k == i) = false := by simp; omega
    simp [e, this]
theorem drawn (hΓ : GOK κ P Γ) (hd : ∀ (i : Nat) (o : Oper), ops[i]? = some o → ∀ d, o.dst = some d → Z.okd d) (ht : Trc κ P Γ ops true m s0 ops.size u x) (hO : Ord ops m)
    (hQ : ∀ a w g, Rep κ Z (fun q => s0.n + 64 * ops.size ≤ q) g (mix ops u (fun _ => true) s0 ops.size) a w → Q .normal a w) :
    ∀ (fuel : Nat) (listed : Array Bool) (g : Gh) (a : Act) (w : World), listed.size = ops.size → Closed m (fun k => listed.getD k false) → left (fun k => listed.getD k false) ops.size ≤ fuel →
      Rep κ Z (fun q => s0.n ≤ q ∧ ∀ k, listed.getD k false = true → ¬ (s0.n + 64 * k ≤ q ∧ q < s0.n + 64 * k + 64)) g (mix ops u (fun k => listed.getD k false) s0 ops.size) a w → wpAny P .any ops Q fuel listed a w := by
  -- nothing ready: all is done
  have fin : ∀ (listed : Array Bool) (g : Gh) (a : Act) (w : World), (∀ k, k < ops.size → listed.getD k false = true) → listed.size = ops.size →
      Rep κ Z (fun q => s0.n ≤ q ∧ ∀ k, listed.getD k false = true → ¬ (s0.n + 64 * k ≤ q ∧ q < s0.n + 64 * k + 64)) g (mix ops u (fun k => listed.getD k false) s0 ops.size) a w → Q .normal a w := by
    intro listed g a w hall hsz h
    rw [mix_congr (u' := u) (L' := fun _ => true) ops.size fun k hk => ⟨rfl, hall k hk⟩] at h
    refine hQ a w g (h.weak fun q hq => ⟨by omega, fun k hk hc => ?_⟩)
    have : k < listed.size := by
      rcases Nat.lt_or_ge k listed.size with h1 | h1
      · exact h1
      · rw [Array.getD_eq_getD_getElem?, Array.getElem?_eq_none h1] at hk; cases hk
    omega
  have rdy : ∀ (listed : Array Bool), listed.size = ops.size → Region.ready .any ops listed = [] → ∀ k, k < ops.size → listed.getD k false = true := by
    intro listed hsz hr k
    induction k using Nat.strongRecOn with
    | _ k ih =>
      intro hk
      cases e : listed.getD k false with
      | true => rfl
      | false =>
        have hlt : k < listed.size := by omega
        have : k ∈ Region.ready .any ops listed := mem_ready.2 ⟨by
          rw [Array.getD_eq_getD_getElem?, Array.getElem?_eq_getElem hlt] at e ⊢
          exact e, ops[k], Array.getElem?_eq_getElem hk, fun e he hb => ih e.on (hO.back k _ (Array.getElem?_eq_getElem hk) e (Array.mem_toList_iff.2 he) hb) (by
            have := hO.back k _ (Array.getElem?_eq_getElem hk) e (Array.mem_toList_iff.2 he) hb
            omega)⟩
        rw [hr] at this
        cases this
  intro fuel
  induction fuel with
  | zero =>
    intro listed g a w hsz hcl hle h
    have hall := left_zero ops.size (Nat.le_zero.1 hle)
    refine ⟨?_, fin listed g a w hall hsz h⟩
    cases e : Region.ready .any ops listed with
    | nil => rfl
    | cons i r =>
      have hi : i ∈ Region.ready .any ops listed := by rw [e]; simp
      obtain ⟨h1, o, ho, _⟩ := mem_ready.1 hi
      have hlt : i < ops.size := (Array.getElem?_eq_some_iff.1 ho).1
      have h2 := hall i hlt
      rw [Array.getD_eq_getD_getElem?, Array.getElem?_eq_getElem (by omega)] at h1 h2
      have h2 : listed[i] = true := h2
      have h1 : listed[i] = false := h1
      rw [h2] at h1
      cases h1
  | succ fuel ih =>
    intro listed g a w hsz hcl hle h
    refine ⟨fun hr => fin listed g a w (rdy listed hsz hr) hsz h, fun i hi => ?_⟩
    obtain ⟨h1, o, ho, hall⟩ := mem_ready.1 hi
    have hlt : i < ops.size := (Array.getElem?_eq_some_iff.1 ho).1
    have hLi : listed.getD i false = false := by
      rw [Array.getD_eq_getD_getElem?, Array.getElem?_eq_getElem (by omega)] at h1 ⊢
      exact h1
    have hr : ∀ k, (m.getD i 0).testBit k = true → listed.getD k false = true := fun k hk => by
      obtain ⟨e, he, hb, h2⟩ := hO.mask i o k ho hk
      have hl := hall e (Array.mem_toList_iff.1 he) hb
      rcases h2 with rfl | h2
      · exact hl
      · exact hcl e.on k hl h2
    have hstep := ht.step i o hlt ho
    have at' := fun t (hx : t ∈ o.looksAt ops) => agree_t (L := fun k => listed.getD k false) ht hO hcl hLi ho hr hx
    have hn : (mix ops u (fun k => listed.getD k false) s0 ops.size).n = s0.n := mix_n _
    have hf : Fire κ P Γ (mix ops u (fun k => listed.getD k false) s0 ops.size) i o (x i) (u i) := by
      rcases hstep.2 with ⟨hx, E, y, he, hy, hu⟩ | ⟨hx, hu⟩
      · refine .inl ⟨hx, E, y, ?_, hy, hu⟩
        cases hl : (ldOf P (mix ops u (fun _ => true) s0 i) o.op).2 with
        | zero =>
          obtain ⟨kb, kr⟩ := agree_k (L := fun k => listed.getD k false) ht hO hcl hLi ho hr hx hl
          rw [step_congr (ops := ops) (by rw [mix_n, mix_n]) at' kb kr]
          exact he
        | succ q =>
          have h1 : 1 ≤ (ldOf P (mix ops u (fun _ => true) s0 i) o.op).2 := by omega
          have hlk := agree_ld (L := fun k => listed.getD k false) ht hO hcl hLi ho (fun f C h => (show Sound κ P C f ∧ C.Keeps from hΓ f _ h).2) hr hx (d := (ldOf P (mix ops u (fun _ => true) s0 i) o.op).1) rfl h1
          rw [ld_step (S := mix ops u (fun _ => true) s0 i) (by rw [mix_n, mix_n]) (fun z hz => by
            cases z with
            | tmp t => exact at' t (List.mem_append_left _ (List.mem_filterMap.2 ⟨.tmp t, Array.mem_toList_iff.2 hz, rfl⟩))
            | _ => rfl) rfl h1 hlk]
          exact he
      · exact .inr ⟨hx, hu⟩
    have hadd := mix_add (L := fun k => listed.getD k false) ht hO hcl hLi ho
    refine fire_wp h hΓ ?_ ho (hd i o ho) (want_congr at' hstep.1) hf fun a' w' g' hg => ?_
    · intro j hj
      rw [hn]
      refine ⟨by omega, fun k hk hc => ?_⟩
      have : k = i := by omega
      subst this
      rw [hLi] at hk
      cases hk
    · have hset := getD_all (listed := listed) (i := i) (by omega)
      have hset' : ∀ k, (listed.setIfInBounds i true).getD k false = (listed.getD k false || k == i) := fun k => congrFun hset k
      refine ih (listed.setIfInBounds i true) g' a' w' (by simpa using hsz) ?_ ?_ ?_
      · intro j k hj hk
        simp only [hset', Bool.or_eq_true, beq_iff_eq] at hj ⊢
        rcases hj with hj | rfl
        · exact .inl (hcl j k hj hk)
        · exact .inl (hr k hk)
      · rw [hset]
        have := left_add (L := fun k => listed.getD k false) hLi ops.size hlt
        omega
      · rw [hset, hadd]
        refine hg.weak fun q hq => ?_
        rw [hn]
        refine ⟨⟨hq.1, fun k hk => hq.2 k (by rw [hset', hk]; rfl)⟩, hq.2 i (by rw [hset']; simp only [beq_self_eq_true, Bool.or_true])⟩
theorem region_ok {id : Nat} {draw : Bool} {ρ : Type} {QQ : St τ → Option ρ} {r : ρ} {s : St τ} (hm : P.follows .mixedOrders = true) (hΓ : GOK κ P Γ) (hd : ∀ (i : Nat) (o : Oper), ops[i]? = some o → ∀ d, o.dst = some d → Z.okd d)
    (h : (bif draw && !(regOk ops) then none else seqOps P κ Γ ops draw (bif draw then masks ops.toList else []) 0 ops.toList [] s QQ) = some r) :
    ∃ s', s'.n = s.n ∧ QQ s' = some r ∧ ∀ (g : Gh) (a : Act) (w : World), Rep κ Z (fun q => s.n ≤ q) g s a w → ∀ Q : Exit → Act → World → Prop, (∀ a w g, Rep κ Z (fun q => s.n + 64 * ops.size ≤ q) g s' a w → Q .normal a w) → (Code.region id ops draw).wp P Q a w := by
  obtain ⟨hc, h2⟩ := bif_none h
  obtain ⟨u, x, ht, hq⟩ := seq_trace (s0 := s) ops.toList 0 [] s (fun _ => ⟨vl undef, [], []⟩) (fun _ => false) h2 rfl (Nat.zero_le _) rfl ⟨fun i o hi => by omega, fun _ k i o o' hk hi => by omega⟩ (fun k o hk => by omega)
  refine ⟨_, mix_n _, hq, fun g a w hs Q hQ => ?_⟩
  cases draw with
  | false =>
    refine wp_region ?_
    rw [List.range_eq_range']
    exact in_order hΓ hd ht hQ ops.size 0 g a w (by omega) (show Rep κ Z (fun q => s.n + 64 * 0 ≤ q) g s a w from hs)
  | true =>
    have hO := regOk_spec (by simpa using hc)
    refine wp_region_any hm ?_
    have hL : (fun k => (Array.replicate ops.size false).getD k false) = fun _ => false := by
      funext k
      rw [Array.getD_eq_getD_getElem?, Array.getElem?_replicate]
      split <;> rfl
    have hL' : ∀ k, (Array.replicate ops.size false).getD k false = false := fun k => congrFun hL k
    have hmix : ∀ n, mix ops u (fun _ => false) s n = s := fun n => by
      induction n with
      | zero => rfl
      | succ n ih => simpa [mix] using ih
    have hleft : ∀ n, left (fun _ => false) n = n := fun n => by
      induction n with
      | zero => rfl
      | succ n ih => simp [left, ih]
    refine drawn hΓ hd ht hO hQ ops.size (Array.replicate ops.size false) g a _ (by simp) ?_ ?_ ?_
    · intro j k hj
      simp only [hL'] at hj
      cases hj
    · rw [hL, hleft]
      exact Nat.le_refl _
    · rw [hL, hmix]
      exact (hs.weak fun q hq => hq.1).world rfl rfl rfl rfl (Nat.le_add_right _ _)
end
end Go.Proofs.Ytkbhbiceojmnaaa.E
namespace Go.Proofs.Ytkbhbiceojmnaaa.E
open Go
set_option linter.unusedVariables false
set_option linter.unusedSimpArgs false
set_option linter.unusedSectionVars false
variable {τ : Nat → Type} {κ : (e : Nat) → K τ (τ e)} {P : Program} {Γ : Nat → Option (Ct τ)} {S : Nat → Option (Lc τ)}
theorem weak_rep {Z : Zn} {fr : Nat → Prop} {g : Gh} {s : St τ} {a : Act} {w : World} {α : Type} {σ : Fr τ α} {x : α} (hok : σ.ok = true) (h : Rep κ Z fr g s a w) (hv : σ.view s.t s.b s.r = some x) :
    ∃ g', Rep κ Z (fun q => 1000000 ≤ q) g' (σ.build x) a w := by
  unfold Fr.view at hv
  obtain ⟨hc, hcl⟩ := bif_els hv
  simp only [Bool.and_eq_true, Bool.not_eq_true'] at hc
  obtain ⟨⟨h1, h2⟩, h3⟩ := hc
  obtain ⟨n1, n2⟩ := names_lt hok
  obtain ⟨g', m1, m2, m3, m4, m5⟩ := fr_den (w := w) (F := σ.frz s.t s.b) (V := fun i => a.tmps.getD i undef) h.m.row h.m.blk h.t σ x (ren0 g (σ.frz s.t s.b)) _ _ _ ren0_ok hcl (fun q hq => hq) (fun q hq => ⟨fun k => share_false h3 q k hq, not_false⟩) (nodup_spec h1) (fun q _ => not_false) (nodup_spec h2) (fun q _ => not_false) n1
  refine ⟨g', ⟨fun p hp => (m2.free p).1 (h.j.free p hp), fun p hp e => h.j.full p hp ((m2.free p).2 e), fun p hp => ?_, h.j.size, h.j.os, h.j.tape, h.j.output, h.j.drawn⟩, ⟨fun d b e => (m3 d b e).2, fun q X e => (m4 q X e).2⟩, m5, fun q hq => m2.nm q fun k => ?_, h.d, h.z, h.k⟩
  · obtain ⟨e, k⟩ := h.j.old p hp
    refine ⟨?_, k⟩
    rcases hp with hp | hp
    · rw [hp] at e ⊢; exact m2.keep p e
    · rw [hp] at e ⊢; exact m2.fgn p e
  · rcases k with k | k
    · exact k
    · have := n2 q k
      omega
/-- From s, the code leaves by e in s'. -/
def Leads (κ : (e : Nat) → K τ (τ e)) (P : Program) (Z : Zn) (c : Code) (s : St τ) (e : Exit) (s' : St τ) : Prop :=
  ∀ g a w, Rep κ Z (fun q => s.n ≤ q) g s a w → c.wp P (fun e' a' w' => e' = e ∧ ∃ g', Rep κ Z (fun q => s'.n ≤ q) g' s' a' w') a w
def LoopOK (κ : (e : Nat) → K τ (τ e)) (P : Program) (Z : Zn) (c : Code) (C : Lc τ) : Prop := C.i.ok = true ∧ ∀ x y, C.f x = some y → Leads κ P Z (.loop c) (C.i.build x) (C.o.u y).1 (C.o.u y).2
theorem cps_u {ρ : Type} {Q : Exit → St τ → Option ρ} : ∀ {α : Type} (o : Ot τ α) (y : α), o.cps y Q = Q (o.u y).1 (o.u y).2
  | _, .one e σ, x => rfl
  | _, .alt e σ r, .inl x => rfl
  | _, .alt e σ r, .inr y => cps_u r y
theorem dsts_region {id : Nat} {ops : Array Oper} {draw : Bool} {Z : Zn} (h : dsts Z.nt Z.rl (.region id ops draw) = true) : ∀ (i : Nat) (o : Oper), ops[i]? = some o → ∀ d, o.dst = some d → Z.okd d := by
  intro i o ho d hd
  simp only [dsts, List.all_eq_true] at h
  have := h o (Array.mem_toList_iff.2 (Array.mem_of_getElem? ho))
  rw [hd] at this
  simp only [Bool.and_eq_true, Bool.not_eq_true'] at this
  exact ⟨blt_lt this.1, has_false this.2⟩
theorem run_sound {ρ : Type} {Z : Zn} (hm : P.follows .mixedOrders = true) (hΓ : GOK κ P Γ) : ∀ (c : Code) (b : Nat) (s : St τ) (Q : Exit → St τ → Option ρ) (r : ρ), dsts Z.nt Z.rl c = true → (∀ p ∈ loops b c, ∀ C, S p.1 = some C → LoopOK κ P Z p.2 C) →
    run P κ Γ S b c s Q = some r → ∃ e s', Leads κ P Z c s e s' ∧ Q e s' = some r := by
  intro c
  induction c with
  | skip => exact fun b s Q r _ _ h => ⟨.normal, s, fun g a w hg => wp_skip ⟨rfl, g, hg⟩, h⟩
  | region id ops draw =>
    intro b s Q r hd _ h
    unfold run at h
    obtain ⟨s', e1, e2, e3⟩ := region_ok (id := id) hm hΓ (dsts_region hd) h
    refine ⟨.normal, _, fun g a w hg => e3 g a w hg _ fun a' w' g' hg' => ⟨rfl, g', ?_⟩, e2⟩
    have := hg'.num (s.n + 64 * ops.toList.length)
    simpa using this
  | seq x y ihx ihy =>
    intro b s Q r hd hl h
    unfold run at h
    simp only [dsts, Bool.and_eq_true] at hd
    simp only [loops] at hl
    obtain ⟨e, s1, h1, h2⟩ := ihx b s _ r hd.1 (fun p hp => hl p (List.mem_append_left _ hp)) h
    by_cases hn : e = .normal
    · subst hn
      obtain ⟨e', s2, h3, h4⟩ := ihy b s1 Q r hd.2 (fun p hp => hl p (List.mem_append_right _ hp)) h2
      refine ⟨e', s2, fun g a w hg => wp_seq (wp_mono (h1 g a w hg) ?_), h4⟩
      rintro e' a' w' ⟨he, g', hg'⟩
      rw [he]
      exact h3 g' a' w' hg'
    · have h2' : Q e s1 = some r := by cases e <;> first | exact absurd rfl hn | exact h2
      refine ⟨e, s1, fun g a w hg => wp_seq (wp_mono (h1 g a w hg) ?_), h2'⟩
      rintro e' a' w' ⟨he, g', hg'⟩
      rw [he]
      cases e with
      | normal => exact absurd rfl hn
      | _ => exact ⟨rfl, g', hg'⟩
  | cond c x y ihx ihy =>
    intro b s Q r hd hl h
    unfold run at h
    simp only [dsts, Bool.and_eq_true] at hd
    simp only [loops] at hl
    split at h
    · rename_i z hz
      have hev : ∀ g a w, Rep κ Z (fun q => s.n ≤ q) g s a w → a.eval c = .bool z := fun g a w hg => by
        have := hg.ev c
        rw [hz] at this
        exact this
      cases z with
      | true =>
        obtain ⟨e, s1, h1, h2⟩ := ihx b s _ r hd.1 (fun p hp => hl p (List.mem_append_left _ hp)) h
        exact ⟨e, s1, fun g a w hg => wp_cond_true (hev g a w hg) (h1 g a w hg), h2⟩
      | false =>
        obtain ⟨e, s1, h1, h2⟩ := ihy b s _ r hd.2 (fun p hp => hl p (List.mem_append_right _ hp)) h
        exact ⟨e, s1, fun g a w hg => wp_cond_false (hev g a w hg) (h1 g a w hg), h2⟩
    · cases h
  | block id c ih =>
    intro b s Q r hd hl h
    unfold run at h
    simp only [dsts] at hd
    simp only [loops] at hl
    obtain ⟨e, s1, h1, h2⟩ := ih id s _ r hd hl h
    by_cases hx : ∃ i, e = .exit i ∧ i = id
    · obtain ⟨i, rfl, rfl⟩ := hx
      simp only [Nat.beq_refl, cond_true] at h2
      refine ⟨.normal, s1, fun g a w hg => wp_block (wp_mono (h1 g a w hg) ?_), by simpa using h2⟩
      rintro e' a' w' ⟨he, g', hg'⟩
      rw [he]
      simp only [Exit.inBlock, if_true]
      exact ⟨trivial, g', hg'⟩
    · refine ⟨e, s1, fun g a w hg => wp_block (wp_mono (h1 g a w hg) ?_), ?_⟩
      · rintro e' a' w' ⟨he, g', hg'⟩
        rw [he]
        cases e with
        | exit i =>
          simp only [Exit.inBlock]
          rw [if_neg fun k => hx ⟨i, rfl, k⟩]
          exact ⟨trivial, g', hg'⟩
        | _ => exact ⟨rfl, g', hg'⟩
      · cases e with
        | exit i =>
          have : Nat.beq i id = false := beq_false fun k => hx ⟨i, rfl, k⟩
          simpa [this] using h2
        | _ => exact h2
  | loop c ih =>
    intro b s Q r hd hl h
    unfold run at h
    split at h
    · rename_i C hC
      split at h
      · rename_i x hx
        obtain ⟨y, hy, hq⟩ := Option.bind_eq_some_iff.1 h
        rw [cps_u] at hq
        obtain ⟨ho, hs⟩ := hl (b, c) (by simp [loops]) C hC
        refine ⟨_, _, fun g a w hg => ?_, hq⟩
        obtain ⟨g', hg'⟩ := weak_rep ho hg hx
        exact hs x y hy g' a w hg'
      · cases h
    · simp only [dsts] at hd
      have hl' : ∀ p ∈ loops b c, ∀ C, S p.1 = some C → LoopOK κ P Z p.2 C := fun p hp => hl p (by simp [loops, hp])
      have gen : ∀ (n : Nat) (s : St τ), unroll (fun s Q => run P κ Γ S b c s Q) n s Q = some r → ∃ e s', Q e s' = some r ∧ ∀ g a w, Rep κ Z (fun q => s.n ≤ q) g s a w → Code.rounds P c (fun e' a' w' => e' = e ∧ ∃ g', Rep κ Z (fun q => s'.n ≤ q) g' s' a' w') n a w := by
        intro n
        induction n with
        | zero => intro s h; simp [unroll] at h
        | succ n ihn =>
          intro s h
          simp only [unroll] at h
          obtain ⟨e1, s1, h1, h2⟩ := ih b s _ r hd hl' h
          by_cases hn : e1 = .normal
          · subst hn
            obtain ⟨e, s', h3, h4⟩ := ihn s1 h2
            refine ⟨e, s', h3, fun g a w hg => ?_⟩
            rw [rounds_succ]
            refine wp_mono (h1 g a w hg) ?_
            rintro e' a' w' ⟨he, g', hg'⟩
            rw [he]
            exact h4 g' a' w' hg'
          · have h2' : Q e1 s1 = some r := by cases e1 <;> first | exact absurd rfl hn | exact h2
            refine ⟨e1, s1, h2', fun g a w hg => ?_⟩
            rw [rounds_succ]
            refine wp_mono (h1 g a w hg) ?_
            rintro e' a' w' ⟨he, g', hg'⟩
            rw [he]
            cases e1 with
            | normal => exact absurd rfl hn
            | _ => exact ⟨rfl, g', hg'⟩
      obtain ⟨e, s', h1, h2⟩ := gen 16 s h
      exact ⟨e, s', fun g a w hg => wp_loop_rounds 16 (h2 g a w hg), h1⟩
  | exit i => exact fun b s Q r _ _ h => ⟨.exit i, s, fun g a w hg => wp_exit ⟨rfl, g, hg⟩, h⟩
  | ret => exact fun b s Q r _ _ h => ⟨.ret, s, fun g a w hg => wp_ret ⟨rfl, g, hg⟩, h⟩
  | _ => intro b s Q r _ _ h; simp [run] at h
/-! ### loops -/
theorem view_u {Z : Zn} {fr : Nat → Prop} {g : Gh} {s : St τ} {a : Act} {w : World} (h : Rep κ Z fr g s a w) : ∀ {α : Type} (o : Ot τ α) (e : Exit) (y : α), o.ok = true → o.view e s = some y →
    (o.u y).1 = e ∧ ∃ g', Rep κ Z (fun q => (o.u y).2.n ≤ q) g' (o.u y).2 a w := by
  have same : ∀ e e', sameE e e' = true → e = e' := by
    intro e e' h
    cases e <;> cases e' <;> simp [sameE] at h
    · rw [h]
    · rfl
  intro α o
  induction o with
  | one e σ =>
    intro e' y ho hv
    obtain ⟨h1, h2⟩ := bif_els hv
    obtain ⟨g', hg'⟩ := weak_rep ho h h2
    exact ⟨same _ _ h1, g', hg'⟩
  | alt e σ r ih =>
    intro e' y ho hv
    simp only [Ot.ok, Bool.and_eq_true] at ho
    simp only [Ot.view] at hv
    cases h1 : sameE e e' with
    | true =>
      rw [h1, cond_true] at hv
      obtain ⟨x, hx, rfl⟩ := Option.map_eq_some_iff.1 hv
      obtain ⟨g', hg'⟩ := weak_rep ho.1 h hx
      exact ⟨same _ _ h1, g', hg'⟩
    | false =>
      rw [h1, cond_false] at hv
      obtain ⟨x, hx, rfl⟩ := Option.map_eq_some_iff.1 hv
      exact ih e' x ho.2 hx
theorem loop_ok {Z : Zn} {α β : Type} {b : Nat} {c : Code} {i : Fr τ α} {o : Ot τ β} {f : α → Option β} (ro : α → Option (α ⊕ β)) (hm : P.follows .mixedOrders = true) (hΓ : GOK κ P Γ) (hd : dsts Z.nt Z.rl c = true)
    (hl : ∀ p ∈ loops b c, ∀ C, S p.1 = some C → LoopOK κ P Z p.2 C) (hi : i.ok = true) (ho : o.ok = true) (hro : ∀ x, ro x = run P κ Γ S b c (i.build x) (rnd i o)) (hf : ∀ x y, f x = some y → ∃ n, Rounds ro n x y) :
    LoopOK κ P Z c ⟨i, f, o⟩ := by
  refine ⟨hi, fun x y hy g a w hg => ?_⟩
  obtain ⟨n, hn⟩ := hf x y hy
  refine wp_loop_rounds n ?_
  have main : ∀ (n : Nat) (x : α) (g : Gh) (a : Act) (w : World), Rounds ro n x y → Rep κ Z (fun q => (i.build x).n ≤ q) g (i.build x) a w → Code.rounds P c (fun e' a' w' => e' = (o.u y).1 ∧ ∃ g', Rep κ Z (fun q => (o.u y).2.n ≤ q) g' (o.u y).2 a' w') n a w := by
    intro n
    induction n with
    | zero => intro x g a w h; exact h.elim
    | succ n ih =>
      intro x g a w h hg
      rw [rounds_succ]
      simp only [Rounds] at h
      cases hr : ro x with
      | none => rw [hr] at h; exact h.elim
      | some v =>
        rw [hr] at h
        rw [hro x] at hr
        obtain ⟨e, s', h1, h2⟩ := run_sound hm hΓ c b (i.build x) _ v hd hl hr
        refine wp_mono (h1 g a w hg) ?_
        rintro e' a' w' ⟨he, g', hg'⟩
        rw [he]
        by_cases hn : e = .normal
        · subst hn
          obtain ⟨x', hx', rfl⟩ := Option.map_eq_some_iff.1 h2
          obtain ⟨g2, hg2⟩ := weak_rep hi hg' hx'
          exact ih x' g2 a' w' h hg2
        · have h2' : (o.view e s').map Sum.inr = some v := by cases e <;> first | exact absurd rfl hn | exact h2
          obtain ⟨y', hy', rfl⟩ := Option.map_eq_some_iff.1 h2'
          have h : y' = y := h
          subst h
          obtain ⟨k1, k2⟩ := view_u hg' o e y' ho hy'
          have : (fun e' a' w' => e' = (o.u y').1 ∧ ∃ g', Rep κ Z (fun q => (o.u y').2.n ≤ q) g' (o.u y').2 a' w') e a' w' := ⟨k1.symm, k2⟩
          cases e with
          | normal => exact absurd rfl hn
          | _ => exact this
  exact main n x g a w hn hg
end Go.Proofs.Ytkbhbiceojmnaaa.E
namespace Go.Proofs.Ytkbhbiceojmnaaa.E
open Go
set_option linter.unusedVariables false
set_option linter.unusedSimpArgs false
set_option linter.unusedSectionVars false
variable {τ : Nat → Type} {κ : (e : Nat) → K τ (τ e)} {P : Program} {Γ : Nat → Option (Ct τ)} {S : Nat → Option (Lc τ)}
theorem run_enter {f : Nat} {F : Func} {vals : Array Value} {w : World} (hf : P.funcs[f]? = some F) (hn : (F.name == "runtime.NumGoroutine") = false) {code : Code} (hb : F.body = some code) : (callFunc f vals).run P w = .ok (.enter f vals) w := by
  have h1 : F.name ≠ "runtime.NumGoroutine" := by simpa using hn
  simp [callFunc, hf, h1, hb]
theorem resT_len {s : St τ} : ∀ (l : List ResultVar) (xs : List (SV τ)), resT P κ s l = some xs → xs.length = l.length
  | [], xs, h => by injection h with h; subst h; rfl
  | .tmp t :: r, xs, h => by
    simp only [resT] at h
    split at h
    · rename_i ys hy
      injection h with h
      subst h
      simp [resT_len r ys hy]
    · cases h
  | .cell a t :: r, xs, h => by
    simp only [resT] at h
    split at h
    · split at h
      · split at h
        · rename_i ys _ hy
          injection h with h
          subst h
          simp [resT_len r _ hy]
        · cases h
      · cases h
    · cases h
theorem resT_ok {g : Gh} {w : World} {s : St τ} {tmps : Array Value} {φ : ResultVar → Sem Value} (hφ : ∀ t, (φ (.tmp t)).run P w = .ok (tmps.getD t undef) w) (hψ : ∀ a t ad, tmps.getD a undef = .pointer (some ad) → (φ (.cell a t)).run P w = (loadVar t ad).run P w)
    (hb : ∀ d b, s.b d = some b → BlkD κ g w d b) (hr : ∀ q r, s.r q = some r → RowD κ g w q r) (ht : ∀ i, denS κ g w (s.t i) (tmps.getD i undef)) : ∀ (l : List ResultVar) (xs : List (SV τ)), resT P κ s l = some xs →
    ∃ vs, (l.mapM φ).run P w = .ok vs w ∧ All2 (denS κ g w) xs vs
  | [], xs, h => by
    injection h with h
    subst h
    exact ⟨[], by simp, .nil⟩
  | .tmp t :: r, xs, h => by
    simp only [resT] at h
    split at h
    · rename_i ys hy
      injection h with h
      subst h
      obtain ⟨vs, h1, h2⟩ := resT_ok hφ hψ hb hr ht r ys hy
      refine ⟨tmps.getD t undef :: vs, ?_, .cons (ht t) h2⟩
      rw [List.mapM_cons, Sem.run_bind, hφ]
      simp only [Result.andThen, Sem.run_bind, h1, Sem.run_pure]
    · cases h
  | .cell a t :: r, xs, h => by
    simp only [resT] at h
    split at h
    · rename_i d o hT
      split at h
      · rename_i E hE
        split at h
        · rename_i y ys hy hys
          injection h with h
          subst h
          obtain ⟨vs, h1, h2⟩ := resT_ok hφ hψ hb hr ht r ys hys
          have hd := ht a
          rw [hT] at hd
          have hd : denL κ g w (.ptr d o) (tmps.getD a undef) := hd
          obtain ⟨v, k1, k2, k3, k4⟩ := load_pu (P := P) hb hr hd hE hy
          obtain ⟨p, hp, hv⟩ := hd
          rw [hv] at k1
          have k1 : (loadVar t ⟨p, o, none⟩).run P w = .ok v w := by
            rw [← k1]
            rfl
          refine ⟨v :: vs, ?_, .cons k2 h2⟩
          rw [List.mapM_cons, Sem.run_bind, hψ a t _ hv, k1]
          simp only [Result.andThen, Sem.run_bind, h1, Sem.run_pure]
        · cases h
      · cases h
    · cases h
theorem results_aux {g : Gh} {w : World} {s : St τ} {tmps : Array Value} {φ : ResultVar → Sem Value} {l : List ResultVar} (hφ : ∀ t, (φ (.tmp t)).run P w = .ok (tmps.getD t undef) w) (hψ : ∀ a t ad, tmps.getD a undef = .pointer (some ad) → (φ (.cell a t)).run P w = (loadVar t ad).run P w)
    (hb : ∀ d b, s.b d = some b → BlkD κ g w d b) (hr : ∀ q r, s.r q = some r → RowD κ g w q r) (ht : ∀ i, denS κ g w (s.t i) (tmps.getD i undef)) {xs : List (SV τ)} (h : resT P κ s l = some xs) :
    ∃ vs, (((Sem.run P (List.mapM φ l) w).andThen fun a w' => .ok a.toArray w').andThen fun a w' => Sem.run P (pure (if h : a.size = 1 then a[0] else Value.tuple a)) w') = .ok (valOf vs) w ∧ All2 (denS κ g w) xs vs := by
  obtain ⟨vs, h1, h2⟩ := resT_ok (P := P) hφ hψ hb hr ht _ xs h
  refine ⟨vs, ?_, h2⟩
  rw [h1]
  cases vs with
  | nil => rfl
  | cons v vs =>
    cases vs with
    | nil => rfl
    | cons u vs => rfl
theorem results_ok {g : Gh} {w : World} {s : St τ} {F : Func} {tmps : Array Value} (hb : ∀ d b, s.b d = some b → BlkD κ g w d b) (hr : ∀ q r, s.r q = some r → RowD κ g w q r) (ht : ∀ i, denS κ g w (s.t i) (tmps.getD i undef)) {xs : List (SV τ)} (h : resT P κ s F.results.toList = some xs) :
    ∃ vs, (results F tmps).run P w = .ok (valOf vs) w ∧ All2 (denS κ g w) xs vs := by
  unfold results
  rw [Array.mapM_eq_mapM_toList]
  simp only [Sem.run_bind, Sem.run_map]
  refine results_aux ?_ ?_ hb hr ht h
  · intro t
    rfl
  · intro a t ad e
    simp only [Sem.run_bind]
    rw [e]
    rfl
theorem dsts_mono {m n : Nat} {rl : List Nat} (h : m ≤ n) : ∀ (c : Code), dsts m rl c = true → dsts n rl c = true := by
  intro c
  induction c with
  | region id ops draw =>
    intro hd
    simp only [dsts, List.all_eq_true] at hd ⊢
    intro o ho
    have := hd o ho
    cases e : o.dst with
    | none => rfl
    | some d =>
      rw [e] at this
      simp only [Bool.and_eq_true] at this ⊢
      have h1 := blt_lt this.1
      exact ⟨Nat.ble_eq_true_of_le (by omega), this.2⟩
  | seq x y ihx ihy => intro hd; simp only [dsts, Bool.and_eq_true] at hd ⊢; exact ⟨ihx hd.1, ihy hd.2⟩
  | cond c x y ihx ihy => intro hd; simp only [dsts, Bool.and_eq_true] at hd ⊢; exact ⟨ihx hd.1, ihy hd.2⟩
  | block id c ih => intro hd; exact ih hd
  | loop c ih => intro hd; exact ih hd
  | _ => intro hd; rfl
theorem tin_any {n : Nat} : ∀ {α : Type} (σ : Fr τ α) (x : α) (t : Nat), σ.tin n = true → n ≤ t → tab (lf (LV.any : LV τ)) (σ.tB x) t = lf .any
  | _, .nil, x, t, _, _ => rfl
  | _, .val u k r, x, t, h, ht => by
    simp only [Fr.tin, Bool.and_eq_true] at h
    rw [Fr.tB, tab_cons, if_neg (by have := blt_lt h.1; omega)]
    exact tin_any r x.2 t h.2 ht
  | _, .arr u _ k r, x, t, h, ht => by
    simp only [Fr.tin, Bool.and_eq_true] at h
    rw [Fr.tB, tab_cons, if_neg (by have := blt_lt h.1; omega)]
    exact tin_any r x.2 t h.2 ht
  | _, .own u _ r, x, t, h, ht => by
    simp only [Fr.tin, Bool.and_eq_true] at h
    rw [Fr.tB, tab_cons, if_neg (by have := blt_lt h.1; omega)]
    exact tin_any r x.2 t h.2 ht
  | _, .ptr u _ _ _ r, x, t, h, ht => by
    simp only [Fr.tin, Bool.and_eq_true] at h
    rw [Fr.tB, tab_cons, if_neg (by have := blt_lt h.1; omega)]
    exact tin_any r x.2 t h.2 ht
  | _, .aptr u _ _ r, x, t, h, ht => by
    simp only [Fr.tin, Bool.and_eq_true] at h
    rw [Fr.tB, tab_cons, if_neg (by have := blt_lt h.1; omega)]
    exact tin_any r x.2 t h.2 ht
  | _, .ob u _ r, x, t, h, ht => by
    simp only [Fr.tin, Bool.and_eq_true] at h
    rw [Fr.tB, tab_cons, if_neg (by have := blt_lt h.1; omega)]
    exact tin_any r x.2 t h.2 ht
theorem backs_lt : ∀ {α : Type} (σ : Fr τ α), ∀ p ∈ σ.backs, p.2.1 < 1000 := by
  intro α σ
  induction σ with
  | nil => intro p hp; cases hp
  | val _ _ _ ih => exact ih
  | arr _ _ _ _ ih => exact ih
  | own t _ _ ih =>
    intro p hp
    simp only [Fr.backs] at hp
    cases hb : Nat.blt t 1000 with
    | true => rw [hb, cond_true] at hp; rcases List.mem_cons.1 hp with rfl | hp; exact blt_lt hb; exact ih p hp
    | false => rw [hb] at hp; exact ih p hp
  | ptr t _ _ _ _ ih =>
    intro p hp
    simp only [Fr.backs] at hp
    cases hb : Nat.blt t 1000 with
    | true => rw [hb, cond_true] at hp; rcases List.mem_cons.1 hp with rfl | hp; exact blt_lt hb; exact ih p hp
    | false => rw [hb] at hp; exact ih p hp
  | aptr t _ _ _ ih =>
    intro p hp
    simp only [Fr.backs] at hp
    cases hb : Nat.blt t 1000 with
    | true => rw [hb, cond_true] at hp; rcases List.mem_cons.1 hp with rfl | hp; exact blt_lt hb; exact ih p hp
    | false => rw [hb] at hp; exact ih p hp
  | ob t _ _ ih =>
    intro p hp
    simp only [Fr.backs] at hp
    cases hb : Nat.blt t 1000 with
    | true => rw [hb, cond_true] at hp; rcases List.mem_cons.1 hp with rfl | hp; exact blt_lt hb; exact ih p hp
    | false => rw [hb] at hp; exact ih p hp
theorem fn_sound {c : Ctr τ} {f : Nat} {F : Func} {code : Code} (hm : P.follows .mixedOrders = true) (hΓ : GOK κ P Γ) (hf : P.funcs[f]? = some F) (hn : (F.name == "runtime.NumGoroutine") = false) (hb : F.body = some code) (hd : dsts F.ntmps c.o.keeps code = true)
    (hl : ∀ Z : Zn, Z.rl = c.o.keeps → F.ntmps ≤ Z.nt → ∀ p ∈ loops 0 code, ∀ C, S p.1 = some C → LoopOK κ P Z p.2 C) (ho : c.o.ok = true) (hr : F.results.size = c.o.nres)
    (hE : ∀ x y, c.f x = some y → fnE P κ Γ S F c.i c.o x = some y) : Sound κ P c f := by
  intro x y hxy g0 w vals hfree hfresh hM hi _ hargs
  have hE := hE x y hxy
  unfold fnE at hE
  rw [hb] at hE
  simp only at hE
  have henter : (callFunc f vals.toArray).run P w = .ok (.enter f vals.toArray) w := run_enter hf hn hb
  unfold Doc
  rw [henter]
  simp only
  refine calls_of_wp hf hb ?_
  obtain ⟨e, s', h1, h2⟩ := run_sound (Z := ⟨w, g0.tag, max vals.length F.ntmps, c.o.keeps, fun t => vals.getD t undef⟩) hm hΓ code 0 _ _ y (dsts_mono (Nat.le_max_right _ _) _ hd) (hl _ rfl (Nat.le_max_right _ _)) hE
  have hrep : Rep κ ⟨w, g0.tag, max vals.length F.ntmps, c.o.keeps, fun t => vals.getD t undef⟩ (fun q => (c.i.build x).n ≤ q) g0 (c.i.build x) { tmps := vals.toArray ++ Array.replicate (F.ntmps - vals.toArray.size) undef, defers := [] } w := by
    refine ⟨⟨fun p hp => (hfree p).1 hp, fun p hp e => ?_, fun p _ => ⟨rfl, rfl⟩, Nat.le_refl _, rfl, rfl, rfl, Nat.le_refl _⟩, hM, fun t => ?_, fun q hq => hfresh q hq, rfl, ?_, fun t _ => ?_⟩
    · have := (hfree p).2 e
      omega
    · simp only [Array.getD_eq_getD_getElem?]
      rcases Nat.lt_or_ge t vals.length with h | h
      · rw [Array.getElem?_append_left (by simpa using h)]
        rw [List.getElem?_toArray, List.getElem?_eq_getElem h]
        exact hargs t _ (List.getElem?_eq_getElem h)
      · have : (c.i.build x).t t = lf .any := tin_any c.i x t hi (by omega)
        rw [this]
        trivial
    · simp
      omega
    · simp only [Array.getD_eq_getD_getElem?, List.getD_eq_getElem?_getD]
      rcases Nat.lt_or_ge t vals.length with h | h
      · rw [Array.getElem?_append_left (by simpa using h), List.getElem?_toArray]
      · rw [Array.getElem?_append_right (by simpa using h), List.getElem?_eq_none h, Array.getElem?_replicate]
        split <;> rfl
  have fin : ∀ a' w' g', finE P κ F c.o s' = some y → Rep κ ⟨w, g0.tag, max vals.length F.ntmps, c.o.keeps, fun t => vals.getD t undef⟩ (fun q => s'.n ≤ q) g' s' a' w' → a'.defers = [] ∧ ∃ v, (results F a'.tmps).run P w' = .ok v w' ∧ ∃ v', Ending.returned v = .returned v' ∧
      ∃ g' vs, Fin g0 w g' w' ∧ Mm κ g' w' (c.o.build y).b (c.o.build y).r ∧ v' = valOf vs ∧ vs.length = c.o.nres ∧ (∀ j u, vs[j]? = some u → denS κ g' w' ((c.o.build y).t (1000 + j)) u) ∧ ∀ t u, t ∈ c.o.keeps → vals[t]? = some u → denS κ g' w' ((c.o.build y).t t) u := by
    intro a' w' g' hfin hg
    unfold finE at hfin
    split at hfin
    · rename_i xs hxs
      obtain ⟨vs, r1, r2⟩ := results_ok (P := P) (F := F) hg.m.blk hg.m.row hg.t hxs
      refine ⟨hg.d, _, r1, _, rfl, ?_⟩
      unfold Fr.view at hfin
      obtain ⟨hc, hcl⟩ := bif_els hfin
      simp only [Bool.and_eq_true, Bool.not_eq_true'] at hc
      obtain ⟨⟨k1, k2⟩, k3⟩ := hc
      obtain ⟨n1, n2⟩ := names_lt ho
      have hT : ∀ i, denS κ g' w' (resS s' xs i) (if 1000 ≤ i then vs.getD (i - 1000) undef else a'.tmps.getD i undef) := fun i => by
        unfold resS
        by_cases h : 1000 ≤ i
        · rw [if_pos h, Nat.ble_eq_true_of_le h, cond_true]
          unfold listT
          cases e : xs[i - 1000]? with
          | none => trivial
          | some z =>
            obtain ⟨v, e1, e2⟩ := r2.get _ _ e
            rw [List.getD_eq_getElem?_getD, e1]
            exact e2
        · rw [if_neg h, show Nat.ble 1000 i = false from by rw [← Bool.not_eq_true]; exact fun k => h (ble_le k), cond_false]
          exact hg.t i
      obtain ⟨g2, m1, m2, m3, m4, m5⟩ := fr_den (w := w') (F := c.o.frz (resS s' xs) s'.b) hg.m.row hg.m.blk hT c.o y (ren0 g' _) _ _ _ ren0_ok hcl (fun q hq => hq) (fun q hq => ⟨fun k => share_false k3 q k hq, not_false⟩) (nodup_spec k1) (fun q _ => not_false) (nodup_spec k2) (fun q _ => not_false) n1
      refine ⟨g2, vs, ⟨fun p hp => ?_, fun p hp => (m2.free p).1 (hg.j.free p hp), hg.j.size, hg.j.os, hg.j.tape, hg.j.output, hg.j.drawn⟩, ⟨fun d b e => (m3 d b e).2, fun q X e => (m4 q X e).2⟩, rfl, ?_, fun j u hu => ?_, fun t u ht hu => ?_⟩
      · obtain ⟨e, k⟩ := hg.j.old p hp
        refine ⟨?_, k⟩
        rcases hp with hp | hp
        · have e : g'.tag p = .keep := e.trans hp
          rw [hp]; exact m2.keep p e
        · have e : g'.tag p = .fgn := e.trans hp
          rw [hp]; exact m2.fgn p e
      · rw [← r2.length, resT_len _ _ hxs, ← hr]
        simp
      · have := m5 (1000 + j)
        rw [if_pos (Nat.le_add_right _ _), Nat.add_sub_cancel_left, List.getD_eq_getElem?_getD, hu] at this
        exact this
      · have := m5 t
        have hlt : t < 1000 := by
          obtain ⟨p, hp, rfl⟩ := List.mem_map.1 ht
          exact backs_lt c.o p hp
        have hk := hg.k t ht
        simp only [List.getD_eq_getElem?_getD, hu, Option.getD_some] at hk
        rw [if_neg (by omega), hk] at this
        exact this
    · cases hfin
  refine wp_mono (h1 g0 _ w hrep) ?_
  rintro e' a' w' ⟨he, g', hg'⟩
  rw [he]
  cases e with
  | normal => exact fin a' w' g' h2 hg'
  | ret => exact fin a' w' g' h2 hg'
  | _ => cases h2
end Go.Proofs.Ytkbhbiceojmnaaa.E
namespace Go.Proofs.Ytkbhbiceojmnaaa.E
open Go
set_option linter.unusedVariables false
set_option linter.unusedSimpArgs false
variable {τ : Nat → Type} {κ : (e : Nat) → K τ (τ e)} {P : Program}
/-! ### tables of contracts -/
def tabG : List (Nat × Ctr τ) → Nat → Option (Ct τ)
  | [], _ => none
  | p :: r, j => bif Nat.beq j p.1 then some (.c p.2) else tabG r j
def tabL : List (Nat × Lc τ) → Nat → Option (Lc τ)
  | [], _ => none
  | p :: r, j => bif Nat.beq j p.1 then some p.2 else tabL r j
theorem gok_nil : GOK κ P (tabG []) := fun f c h => by cases h
theorem keeps0 {c : Ctr τ} (h : c.kp = 0) : c.Keeps := fun x y _ => by rw [h]; rfl
theorem gok_cons {f : Nat} {c : Ctr τ} {r : List (Nat × Ctr τ)} (h : Sound κ P c f) (hk : c.Keeps) (k : GOK κ P (tabG r)) : GOK κ P (tabG ((f, c) :: r)) := fun j d e => by
  simp only [tabG] at e
  cases hj : Nat.beq j f with
  | true =>
    rw [hj] at e
    injection e with e
    subst e
    rw [beq_eq hj]
    exact ⟨h, hk⟩
  | false => rw [hj] at e; exact k j d e
/-- Hooks ahead of a table. -/
def tabK : List (Nat × Hook τ) → (Nat → Option (Ct τ)) → Nat → Option (Ct τ)
  | [], Γ, j => Γ j
  | p :: r, Γ, j => bif Nat.beq j p.1 then some (.h p.2) else tabK r Γ j
theorem gok_hook {f : Nat} {H : Hook τ} {r : List (Nat × Hook τ)} {Γ : Nat → Option (Ct τ)} (h : HookOK κ P H f) (k : GOK κ P (tabK r Γ)) : GOK κ P (tabK ((f, H) :: r) Γ) := fun j d e => by
  simp only [tabK] at e
  cases hj : Nat.beq j f with
  | true =>
    rw [hj] at e
    injection e with e
    subst e
    rw [beq_eq hj]
    exact h
  | false => rw [hj] at e; exact k j d e
theorem all_loops {Φ : Nat × Code → Prop} {l : List (Nat × Code)} (l' : List (Nat × Code)) (h : l = l') (k : ∀ p ∈ l', Φ p) : ∀ p ∈ l, Φ p := by subst h; exact k
theorem all_cons {Φ : Nat × Code → Prop} {b : Nat} {c : Code} {r : List (Nat × Code)} (h : Φ (b, c)) (k : ∀ p ∈ r, Φ p) : ∀ p ∈ (b, c) :: r, Φ p := fun p hp => by
  rcases List.mem_cons.1 hp with h1 | h1
  · rw [h1]; exact h
  · exact k p h1
/-! ### rounds of a loop, as a function: at most 2^64 of them -/
def itr {α β : Type} (ro : α → Option (α ⊕ β)) (n : Nat) : α → Option β :=
  Nat.rec (fun _ => none) (fun _ r x => match ro x with | some (.inl x') => r x' | some (.inr y) => some y | none => none) n
theorem itr_succ {α β : Type} {ro : α → Option (α ⊕ β)} {n : Nat} {x : α} : itr ro (n + 1) x = match ro x with | some (.inl x') => itr ro n x' | some (.inr y) => some y | none => none := rfl
def itrs {α β : Type} (ro : α → Option (α ⊕ β)) (x : α) : Option β := itr ro 18446744073709551616 x
theorem itr_rounds {α β : Type} {ro : α → Option (α ⊕ β)} : ∀ (n : Nat) (x : α) (y : β), itr ro n x = some y → Rounds ro n x y
  | 0, x, y, h => by cases h
  | n + 1, x, y, h => by
    rw [itr_succ] at h
    simp only [Rounds]
    cases e : ro x with
    | none => rw [e] at h; cases h
    | some v =>
      rw [e] at h
      cases v with
      | inl x' => exact itr_rounds n x' y h
      | inr y' => exact Option.some.inj h
theorem itrs_rounds {α β : Type} {ro : α → Option (α ⊕ β)} (x : α) (y : β) (h : itrs ro x = some y) : ∃ n, Rounds ro n x y := ⟨_, itr_rounds _ x y h⟩
theorem itr_more {α β : Type} {ro : α → Option (α ⊕ β)} : ∀ (n : Nat) (x : α) (y : β) (m : Nat), itr ro n x = some y → n ≤ m → itr ro m x = some y
  | 0, x, y, m, h, _ => by cases h
  | n + 1, x, y, m, h, hm => by
    obtain ⟨k, rfl⟩ : ∃ k, m = k + 1 := ⟨m - 1, by omega⟩
    rw [itr_succ] at h ⊢
    cases e : ro x with
    | none => rw [e] at h; cases h
    | some v =>
      rw [e] at h
      cases v with
      | inl x' => exact itr_more n x' y k h (by omega)
      | inr y' => exact h
/-- So many rounds come to y. -/
theorem itrs_of {α β : Type} {ro : α → Option (α ⊕ β)} {n : Nat} {x : α} {y : β} (h : itr ro n x = some y) (hn : n ≤ 18446744073709551616) : itrs ro x = some y := itr_more n x y _ h hn
/-- A loop with an invariant and a measure comes to an end. -/
theorem itr_inv {α β : Type} {ro : α → Option (α ⊕ β)} (I : α → Prop) (μ : α → Nat) (O : β → Prop) (h : ∀ x, I x → (∃ x', ro x = some (.inl x') ∧ I x' ∧ μ x' < μ x) ∨ ∃ y, ro x = some (.inr y) ∧ O y) : ∀ (n : Nat) (x : α), I x → μ x < n → ∃ y, itr ro n x = some y ∧ O y
  | 0, x, _, hn => by omega
  | n + 1, x, hx, hn => by
    rcases h x hx with ⟨x', e, h1, h2⟩ | ⟨y, e, ho⟩
    · obtain ⟨y, k1, k2⟩ := itr_inv I μ O h n x' h1 (by omega)
      exact ⟨y, by rw [itr_succ, e]; exact k1, k2⟩
    · exact ⟨y, by rw [itr_succ, e], ho⟩
theorem itrs_inv {α β : Type} {ro : α → Option (α ⊕ β)} (I : α → Prop) (μ : α → Nat) (O : β → Prop) (h : ∀ x, I x → (∃ x', ro x = some (.inl x') ∧ I x' ∧ μ x' < μ x) ∨ ∃ y, ro x = some (.inr y) ∧ O y) {x : α} (hx : I x) (hn : μ x < 18446744073709551616) : ∃ y, itrs ro x = some y ∧ O y := itr_inv I μ O h _ x hx hn
def loopAt (F : Func) (k : Nat) : Code := match F.body with | some c => (match (loops 0 c)[k]? with | some p => p.2 | none => .skip) | none => .skip
def bodyOf (F : Func) : Code := match F.body with | some c => c | none => .skip
/-! ### calls that answer at once, with values -/
def Fr.svs : {α : Type} → Fr τ α → α → List (CV τ)
  | _, .nil, _ => []
  | _, .val _ k r, x => k.cv x.1 :: r.svs x.2
  | _, .arr _ n k r, x => .arr k n x.1 :: r.svs x.2
  | _, .own _ _ r, x => r.svs x.2
  | _, .ptr _ _ _ _ r, x => r.svs x.2
  | _, .aptr _ _ _ r, x => r.svs x.2
  | _, .ob _ _ r, x => r.svs x.2
/-- Values alone, at the places i, i + 1, .. -/
def Fr.seq : {α : Type} → Nat → Fr τ α → Bool
  | _, _, .nil => true
  | _, i, .val t _ r => Nat.beq t i && r.seq (i + 1)
  | _, i, .arr t _ _ r => Nat.beq t i && r.seq (i + 1)
  | _, _, _ => false
theorem seq_tab : ∀ {α : Type} (σ : Fr τ α) (i : Nat) (x : α), σ.seq i = true → (σ.svs x).length = σ.places.length ∧ (∀ t, tab (lf (LV.any : LV τ)) (σ.tB x) t = if i ≤ t then (match (σ.svs x)[t - i]? with | some y => .c y | none => lf .any) else lf .any) ∧ σ.bB x = [] ∧ σ.rB x = [] ∧ σ.backs = [] ∧ (1000 ≤ i → σ.nres = σ.places.length)
  | _, .nil, i, x, _ => ⟨rfl, fun t => by simp [Fr.tB, tab, Fr.svs], rfl, rfl, rfl, fun _ => rfl⟩
  | _, .val t k r, i, x, h => by
    simp only [Fr.seq, Bool.and_eq_true] at h
    obtain rfl := beq_eq h.1
    obtain ⟨h1, h2, h3, h4, h5, h6⟩ := seq_tab r (t + 1) x.2 h.2
    refine ⟨by simp [Fr.svs, Fr.places, h1], fun j => ?_, h3, h4, h5, fun hi => ?_⟩
    · rw [Fr.tB, tab_cons, h2 j]
      by_cases e : j = t
      · subst e; simp [Fr.svs]
      · rw [if_neg e]
        by_cases h5 : t ≤ j
        · rw [if_pos h5, if_pos (by omega), Fr.svs, show j - t = (j - (t + 1)) + 1 from by omega, List.getElem?_cons_succ]
        · rw [if_neg h5, if_neg (by omega)]
    · simp only [Fr.nres, Fr.places, List.length_cons]
      rw [Nat.ble_eq_true_of_le hi, cond_true, h6 (by omega)]
  | _, .arr t n k r, i, x, h => by
    simp only [Fr.seq, Bool.and_eq_true] at h
    obtain rfl := beq_eq h.1
    obtain ⟨h1, h2, h3, h4, h5, h6⟩ := seq_tab r (t + 1) x.2 h.2
    refine ⟨by simp [Fr.svs, Fr.places, h1], fun j => ?_, h3, h4, h5, fun hi => ?_⟩
    · rw [Fr.tB, tab_cons, h2 j]
      by_cases e : j = t
      · subst e; simp [Fr.svs]
      · rw [if_neg e]
        by_cases h5 : t ≤ j
        · rw [if_pos h5, if_pos (by omega), Fr.svs, show j - t = (j - (t + 1)) + 1 from by omega, List.getElem?_cons_succ]
        · rw [if_neg h5, if_neg (by omega)]
    · simp only [Fr.nres, Fr.places, List.length_cons]
      rw [Nat.ble_eq_true_of_le hi, cond_true, h6 (by omega)]
  | _, .own _ _ _, _, _, h => by simp [Fr.seq] at h
  | _, .ptr _ _ _ _ _, _, _, h => by simp [Fr.seq] at h
  | _, .aptr _ _ _ _, _, _, h => by simp [Fr.seq] at h
  | _, .ob _ _ _, _, _, h => by simp [Fr.seq] at h
/-- A call that answers at once, with values. -/
theorem ext_sound {c : Ctr τ} {f : Nat} (hi : c.i.seq 0 = true) (ho : c.o.seq 1000 = true)
    (hE : ∀ x y, c.f x = some y → ∀ (g : Gh) (w : World) (vals : List Value), All2 (denC κ g w) (c.i.svs x) vals → ∃ us, (callFunc f vals.toArray).run P w = .ok (.value (valOf us)) w ∧ All2 (denC κ g w) (c.o.svs y) us) : Sound κ P c f := by
  intro x y hxy g0 w vals hfree hfresh hM _ hlen hargs
  obtain ⟨t1, t2, t3, t4, _, _⟩ := seq_tab c.i 0 x hi
  obtain ⟨u1, u2, u3, u4, u5, u6⟩ := seq_tab c.o 1000 y ho
  have ha : All2 (denC κ g0 w) (c.i.svs x) vals := .mk (by rw [t1, hlen]) fun i cv v hcv hv => by
    have := hargs i v hv
    have e : (c.i.build x).t i = .c cv := by
      have := t2 i
      rw [if_pos (Nat.zero_le _), Nat.sub_zero, hcv] at this
      exact this
    rw [e] at this
    exact this
  obtain ⟨us, h1, h2⟩ := hE x y hxy g0 w vals ha
  unfold Doc
  rw [h1]
  refine ⟨g0, us, ⟨fun p _ => ⟨rfl, rfl⟩, fun p hp => (hfree p).1 hp, Nat.le_refl _, rfl, rfl, rfl, Nat.le_refl _⟩, ⟨fun d b e => ?_, fun q r e => ?_⟩, rfl, by rw [← h2.length, u1, u6 (Nat.le_refl _)], fun j u hu => ?_, fun t u ht => ?_⟩
  · rw [Fr.build, u3] at e; cases e
  · rw [Fr.build, u4] at e; cases e
  · obtain ⟨cv, k1, k2⟩ := h2.get' j u hu
    have := u2 (1000 + j)
    rw [if_pos (Nat.le_add_right _ _), Nat.add_sub_cancel_left, k1] at this
    have e : (c.o.build y).t (1000 + j) = .c cv := this
    rw [e]
    exact k2
  · rw [Fr.keeps, u5] at ht
    cases ht
/-! ### math/bits -/
abbrev w1 : Fr τ (Int × Unit) := .val 0 (.int .u64) .nil
abbrev w2 : Fr τ (Int × Int × Unit) := .val 0 (.int .u64) (.val 1 (.int .u64) .nil)
abbrev w3 : Fr τ (Int × Int × Int × Unit) := .val 0 (.int .u64) (.val 1 (.int .u64) (.val 2 (.int .u64) .nil))
abbrev r2 : Fr τ (Int × Int × Unit) := .val 1000 (.int .u64) (.val 1001 (.int .u64) .nil)
def isW (x : Int) : Bool := decide (0 ≤ x) && decide (x ≤ 18446744073709551615)
def cAdd64 : Ctr τ := ⟨w3, r2, fun x => bif isW x.1 && isW x.2.1 && decide (0 ≤ x.2.2.1) && decide (x.2.2.1 ≤ 1) then some ((x.1 + x.2.1 + x.2.2.1) % 18446744073709551616, (x.1 + x.2.1 + x.2.2.1) / 18446744073709551616, ()) else none, 0⟩
def cSub64 : Ctr τ := ⟨w3, r2, fun x => bif isW x.1 && isW x.2.1 && decide (0 ≤ x.2.2.1) && decide (x.2.2.1 ≤ 1) then some ((x.1 - x.2.1 - x.2.2.1) % 18446744073709551616, bif decide (x.1 < x.2.1 + x.2.2.1) then 1 else 0, ()) else none, 0⟩
def sub64Entry : Array Value → Sem Value := fun args => do
  let (x, y, b) ← Extern.MathBitsCarry.three "Sub64" args
  pure (Extern.MathBitsCarry.pair ((x + Extern.MathBitsCarry.m64 - y - b) % Extern.MathBitsCarry.m64) (if x < y + b then 1 else 0))
theorem three_run (nm : String) (x y c : Int) (hc : c.toNat ≤ 1) (w : World) :
    (Extern.MathBitsCarry.three nm #[.int .u64 x, .int .u64 y, .int .u64 c]).run P w = .ok (x.toNat, y.toNat, c.toNat) w := by
  change Sem.run P (do
    let c := (← asInt (.int .u64 c)).toNat
    if c > 1 then unsupported (.noEntry ("extern/math/bits." ++ nm ++ ": a carry that is neither 0 nor 1"))
    pure ((← asInt (.int .u64 x)).toNat, (← asInt (.int .u64 y)).toNat, c)) w = _
  simp [asInt, asIntOf, Sem.run_pure, Result.andThen]
  omega
theorem three_args {g : Gh} {w : World} {x : Int × Int × Int × Unit} {vals : List Value} (h : All2 (denC κ g w) ((w3 (τ := τ)).svs x) vals) : vals = [.int .u64 x.1, .int .u64 x.2.1, .int .u64 x.2.2.1] := by
  cases h with
  | cons h1 h =>
    cases h with
    | cons h2 h =>
      cases h with
      | cons h3 h =>
        cases h
        have h1 : _ = _ := h1
        have h2 : _ = _ := h2
        have h3 : _ = _ := h3
        rw [h1, h2, h3]
theorem add64_sound {f : Nat} {F : Func} (hf : P.funcs[f]? = some F) (hname : (F.name == "runtime.NumGoroutine") = false) (hb : F.body.isNone = true) (hn : Extern.findNext F = none) (he : Extern.find F = some add64Entry) : Sound κ P cAdd64 f := by
  refine ext_sound rfl rfl fun x y hxy g w vals ha => ?_
  obtain rfl := three_args ha
  obtain ⟨hc, h2⟩ := bif_els hxy
  simp only [isW, Bool.and_eq_true, decide_eq_true_eq] at hc
  injection h2 with h2
  subst h2
  refine ⟨[.int .u64 ((x.1 + x.2.1 + x.2.2.1) % 18446744073709551616), .int .u64 ((x.1 + x.2.1 + x.2.2.1) / 18446744073709551616)], ?_, .cons rfl (.cons rfl .nil)⟩
  rw [run_callFunc_extern hf hname hb hn he]
  have : (add64Entry #[.int .u64 x.1, .int .u64 x.2.1, .int .u64 x.2.2.1]).run P w = .ok (.tuple #[.int .u64 (((x.1.toNat + x.2.1.toNat + x.2.2.1.toNat) % 18446744073709551616 : Nat) : Int), .int .u64 (((x.1.toNat + x.2.1.toNat + x.2.2.1.toNat) / 18446744073709551616 : Nat) : Int)]) w := by
    unfold add64Entry
    rw [Sem.run_bind, three_run _ _ _ _ (by omega)]; rfl
  rw [this]
  have e1 : (((x.1.toNat + x.2.1.toNat + x.2.2.1.toNat) % 18446744073709551616 : Nat) : Int) = (x.1 + x.2.1 + x.2.2.1) % 18446744073709551616 := by omega
  have e2 : (((x.1.toNat + x.2.1.toNat + x.2.2.1.toNat) / 18446744073709551616 : Nat) : Int) = (x.1 + x.2.1 + x.2.2.1) / 18446744073709551616 := by omega
  rw [e1, e2]
  rfl
theorem sub64_sound {f : Nat} {F : Func} (hf : P.funcs[f]? = some F) (hname : (F.name == "runtime.NumGoroutine") = false) (hb : F.body.isNone = true) (hn : Extern.findNext F = none) (he : Extern.find F = some sub64Entry) : Sound κ P cSub64 f := by
  refine ext_sound rfl rfl fun x y hxy g w vals ha => ?_
  obtain rfl := three_args ha
  obtain ⟨hc, h2⟩ := bif_els hxy
  simp only [isW, Bool.and_eq_true, decide_eq_true_eq] at hc
  injection h2 with h2
  subst h2
  refine ⟨[.int .u64 ((x.1 - x.2.1 - x.2.2.1) % 18446744073709551616), .int .u64 (bif decide (x.1 < x.2.1 + x.2.2.1) then 1 else 0)], ?_, .cons rfl (.cons rfl .nil)⟩
  rw [run_callFunc_extern hf hname hb hn he]
  have : (sub64Entry #[.int .u64 x.1, .int .u64 x.2.1, .int .u64 x.2.2.1]).run P w = .ok (.tuple #[.int .u64 (((x.1.toNat + 18446744073709551616 - x.2.1.toNat - x.2.2.1.toNat) % 18446744073709551616 : Nat) : Int), .int .u64 ((if x.1.toNat < x.2.1.toNat + x.2.2.1.toNat then 1 else 0 : Nat) : Int)]) w := by
    unfold sub64Entry
    rw [Sem.run_bind, three_run _ _ _ _ (by omega)]; rfl
  rw [this]
  have e1 : (((x.1.toNat + 18446744073709551616 - x.2.1.toNat - x.2.2.1.toNat) % 18446744073709551616 : Nat) : Int) = (x.1 - x.2.1 - x.2.2.1) % 18446744073709551616 := by omega
  have e2 : ((if x.1.toNat < x.2.1.toNat + x.2.2.1.toNat then 1 else 0 : Nat) : Int) = bif decide (x.1 < x.2.1 + x.2.2.1) then 1 else 0 := by
    by_cases h : x.1 < x.2.1 + x.2.2.1
    · rw [if_pos (by omega), decide_eq_true h]; rfl
    · rw [if_neg (by omega), decide_eq_false h]; rfl
  rw [e1, e2]
  rfl
end Go.Proofs.Ytkbhbiceojmnaaa.E
namespace Go.Proofs.Ytkbhbiceojmnaaa.E
open Go Go.RowKit Go.WideShapes Go.Deep Go.ChangeShapes Go.ChangeAt
set_option linter.unusedVariables false
set_option linter.unusedSimpArgs false
set_option linter.unusedSectionVars false
variable {τ : Nat → Type} {κ : (e : Nat) → K τ (τ e)} {P : Program}
def inW (w : World) (p : Nat) : Prop := p < w.heap.size
/-- What is read at type t is of kind k, with Q. -/
def Came (κ : (e : Nat) → K τ (τ e)) (P : Program) (t : TypeId) {α : Type} (k : K τ α) (Q : α → Prop) : Prop :=
  ∀ (H : Type) (enc : TypeId × Value → H) (w : World) (base : Nat) (spare : Nat → Bool) (held : Bool) (fuel : Nat) (cs : List Value) (x : DataW H × List MemPlace),
    DataW.trod enc P w base spare held fuel t cs = some x → (∀ n ∈ x.1.weights P t, n ≤ reachBytes) → ∃ a, KD κ (inW w) w k a cs ∧ Q a
theorem Came.int {t : TypeId} {k : IntKind} (hu : P.underlying t = some (.int k)) : Came κ P t (K.int k) (fun a => (Lit.int k a).wf = true) := by
  intro H enc w base spare held fuel cs x h _
  obtain ⟨n, rfl, _, hw⟩ := DataW.trod_int hu h
  exact ⟨n, .int k n, hw⟩
theorem Came.bool {t : TypeId} (hu : P.underlying t = some .bool) : Came κ P t K.bool (fun _ => True) := by
  intro H enc w base spare held fuel cs x h _
  obtain ⟨b, rfl, _⟩ := DataW.trod_bool hu h
  exact ⟨b, .bool b, trivial⟩
theorem Came.string {t : TypeId} (hu : P.underlying t = some .string) : Came κ P t K.str (fun s => s.size ≤ 140737488351232) := by
  intro H enc w base spare held fuel cs x h hw
  obtain ⟨s, rfl, rfl, _⟩ := DataW.trod_string hu h
  refine ⟨s, .str s, ?_⟩
  have := hw s.data.toList.length (by simp [DataW.weights])
  simpa [reachBytes] using this
theorem mem_weightsAll {H : Type} {e : TypeId} : ∀ {l : List (DataW H)} {d : DataW H}, d ∈ l → ∀ n ∈ d.weights P e, n ∈ DataW.weightsAll P e l
  | [], d, h => by simp at h
  | a :: l, d, h => by
    intro n hn
    simp only [DataW.weightsAll, List.mem_append]
    rcases List.mem_cons.1 h with rfl | h
    · exact .inl hn
    · exact .inr (mem_weightsAll h n hn)
theorem cell_of_cells {w : World} {base : Nat} {a : Addr} {n : Nat} {cs : List Value} (h : w.cells? base a n = some cs) : cs.length = n ∧ ∀ i u, cs[i]? = some u → w.cell? (a.add i) = some u := by
  unfold World.cells? at h
  split at h
  · have hl := mapM_some_length h
    refine ⟨by simpa using hl, fun i u hu => ?_⟩
    have hi : i < n := by
      have := (List.getElem?_eq_some_iff.1 hu).1
      have hl' : cs.length = n := by simpa using hl
      omega
    have := mapM_some_get h i i (by simp [hi])
    rw [this, hu]
  · simp at h
theorem cell_lt {w : World} {a : Addr} {u : Value} (h : w.cell? a = some u) : a.block < w.heap.size := by
  rcases Nat.lt_or_ge a.block w.heap.size with k | k
  · exact k
  · have : w.heap[a.block]? = none := by simpa using k
    unfold World.cell? at h
    rw [this] at h
    cases h
theorem list_of {α : Type} {R : Nat → α → Prop} : ∀ n, (∀ i, i < n → ∃ x, R i x) → ∃ l : List α, l.length = n ∧ ∀ i x, l[i]? = some x → R i x
  | 0, _ => ⟨[], rfl, by simp⟩
  | n + 1, h => by
    obtain ⟨l, hl, hr⟩ := list_of n fun i hi => h i (by omega)
    obtain ⟨x, hx⟩ := h n (by omega)
    refine ⟨l ++ [x], by simp [hl], fun i y hy => ?_⟩
    by_cases hi : i < l.length
    · rw [List.getElem?_append_left hi] at hy
      exact hr i y hy
    · have hlt := (List.getElem?_eq_some_iff.1 hy).1
      have : i = n := by simp at hlt; omega
      subst this
      rw [List.getElem?_append_right (by omega)] at hy
      simp [hl] at hy
      rw [← hy]
      exact hx
theorem Came.slice {t e : TypeId} {Q : τ e → Prop} (hu : P.underlying t = some (.slice e)) (hc : P.cellsOf e = (κ e).sz) (h0 : Nat.ble 1 (κ e).sz = true) {B : Nat} (hB : P.bytesOf e = B) (h : Came κ P e (κ e) Q) :
    Came κ P t (K.sl (τ := τ) e) (fun l => l.length * B ≤ 140737488351232 ∧ ∀ x ∈ l, Q x) := by
  intro H enc w base spare held fuel cs x hx hw
  have h0 : 1 ≤ (κ e).sz := Nat.le_of_ble_eq_true h0
  rcases open_slice hu hx with ⟨rfl, rfl⟩ | ⟨a, len, cap, m, n, D, Pl, rfl, hb, hl, hm, hm', rfl, hel⟩
  · exact ⟨[], .sl (l := []) (fun _ => []) (Nat.le_refl _) (fun j hj => absurd hj (by simp)) (fun j a hj => by simp at hj), by simp, by simp⟩
  · have hlm : len ≤ m := by rw [hm']; split <;> omega
    obtain ⟨l, hl1, hl2⟩ := list_of (R := fun i (x : τ e) => (∃ cs', w.cells? base (a.add (i * P.cellsOf e)) (P.cellsOf e) = some cs' ∧ KD κ (inW w) w (κ e) x cs') ∧ Q x) len (by
      intro i hi
      obtain ⟨cs', h1, h2⟩ := hel i (by omega)
      obtain ⟨x, hk, hq⟩ := h H enc w base spare held n cs' (D i, Pl i) h2 fun k hk => hw k (by
        simp only [DataW.weights, hu, List.mem_cons, List.mem_append]
        exact .inr (.inl (mem_weightsAll (List.mem_map.2 ⟨i, by simp [hi], rfl⟩) k hk)))
      exact ⟨x, ⟨cs', h1, hk⟩, hq⟩)
    have hw0 := hw ((len + (m - len)) * P.bytesOf e) (by simp [DataW.weights, hu])
    obtain ⟨css, hcss⟩ : ∃ css : Nat → List Value, ∀ j x, l[j]? = some x → w.cells? base (a.add (j * P.cellsOf e)) (P.cellsOf e) = some (css j) ∧ KD κ (inW w) w (κ e) x (css j) := by
      refine ⟨fun j => (w.cells? base (a.add (j * P.cellsOf e)) (P.cellsOf e)).getD [], fun j x hj => ?_⟩
      obtain ⟨⟨cs', h1, h2⟩, _⟩ := hl2 j x hj
      have e : ((fun j => (w.cells? base (a.add (j * P.cellsOf e)) (P.cellsOf e)).getD []) j) = cs' := by simp only [h1, Option.getD_some]
      rw [e]
      exact ⟨h1, h2⟩
    refine ⟨l, ?_, ?_, ?_⟩
    · have := KD.sl (κ := κ) (kp := inW w) (w := w) (e := e) (l := l) (A := some a) (c := cap) css (by omega) (fun j hj => ?_) (fun j x hj => (hcss j x hj).2)
      · rw [hl1] at this; exact this
      · obtain ⟨h1, _⟩ := hcss j _ (List.getElem?_eq_getElem hj)
        obtain ⟨h3, h4⟩ := cell_of_cells h1
        rw [hc] at h3 h4
        have h5 : ∀ i u, (css j)[i]? = some u → w.cell? (a.add (j * (κ e).sz + i)) = some u := fun i u hu' => by
          have := h4 i u hu'
          rw [← this]
          congr 1
          unfold Addr.add
          by_cases e1 : j * (κ e).sz = 0 <;> by_cases e2 : i = 0 <;> simp [e1, e2, Nat.add_assoc]
        refine ⟨a, rfl, ?_, h5⟩
        have := cell_lt (h5 0 _ (List.getElem?_eq_getElem (by omega)))
        rw [add_block] at this
        exact this
    · rw [hl1, ← hB]
      have : len * P.bytesOf e ≤ (len + (m - len)) * P.bytesOf e := Nat.mul_le_mul_right _ (by omega)
      unfold reachBytes at hw0
      omega
    · intro x hx
      obtain ⟨i, hi, rfl⟩ := List.getElem_of_mem hx
      exact (hl2 i _ (by simp)).2
/-- What the fields of a struct say together: one after the other, from cell o on. -/
def CameFs (κ : (e : Nat) → K τ (τ e)) (P : Program) (fs : List Field) (o : Nat) {α : Type} (d : K τ α) (Q : α → Prop) : Prop :=
  ∀ (H : Type) (enc : TypeId × Value → H) (w : World) (base : Nat) (spare : Nat → Bool) (held : Bool) (fuel : Nat) (cs : List Value) (xs : List (DataW H × List MemPlace)),
    xs.length = fs.length → cs.length = o + d.sz → (∀ (i : Nat) (f : Field), fs[i]? = some f → DataW.trod enc P w base spare held fuel f.type ((cs.drop f.offset).take (P.cellsOf f.type)) = xs[i]?) →
    (∀ n ∈ DataW.weightsEach P (fs.map (·.type)) (xs.map (·.1)), n ≤ reachBytes) → ∃ a, KD κ (inW w) w d a (cs.drop o) ∧ Q a
theorem CameFs.one {α : Type} {f : Field} {o : Nat} {d : K τ α} {Q : α → Prop} (ho : f.offset = o) (hc : P.cellsOf f.type = d.sz) (h : Came κ P f.type d Q) : CameFs κ P [f] o d Q := by
  intro H enc w base spare held fuel cs xs hl hcs hx hw
  have h0 := hx 0 f rfl
  obtain ⟨x, rfl⟩ : ∃ x, xs = [x] := by
    cases xs with
    | nil => simp at hl
    | cons x r => cases r with
      | nil => exact ⟨x, rfl⟩
      | cons y r => simp at hl
  rw [ho, hc, List.take_of_length_le (by simp; omega)] at h0
  exact h H enc w base spare held fuel _ x (by simpa using h0) fun n hn => hw n (by simp [DataW.weightsEach, hn])
theorem CameFs.cons {α β : Type} {f : Field} {fs : List Field} {o o1 : Nat} {d : K τ α} {d1 : K τ β} {Q : α → Prop} {Q1 : β → Prop} (ho : f.offset = o) (hc : P.cellsOf f.type = d.sz) (ho1 : o1 = o + d.sz) (h : Came κ P f.type d Q)
    (h1 : CameFs κ P fs o1 d1 Q1) : CameFs κ P (f :: fs) o (K.pair d d1) (fun a => Q a.1 ∧ Q1 a.2) := by
  intro H enc w base spare held fuel cs xs hl hcs hx hw
  subst ho1
  have h0 := hx 0 f rfl
  obtain ⟨x, r, rfl⟩ : ∃ x r, xs = x :: r := by
    cases xs with
    | nil => simp at hl
    | cons x r => exact ⟨x, r, rfl⟩
  rw [ho, hc] at h0
  have hcs' : cs.length = o + (d.sz + d1.sz) := hcs
  obtain ⟨a, ha, hqa⟩ := h H enc w base spare held fuel _ x (by simpa using h0) fun n hn => hw n (by simp [DataW.weightsEach, hn])
  obtain ⟨b, hb, hqb⟩ := h1 H enc w base spare held fuel cs r (by simpa using hl) (by omega) (fun i f' hf => by simpa using hx (i + 1) f' (by simpa using hf)) fun n hn => hw n (by simp only [List.map_cons, DataW.weightsEach, List.mem_append]; exact .inr hn)
  refine ⟨(a, b), ?_, hqa, hqb⟩
  have : cs.drop o = (cs.drop o).take d.sz ++ cs.drop (o + d.sz) := by rw [← List.drop_drop, List.take_append_drop]
  rw [this]
  exact .pair ha hb
theorem Came.struct {α : Type} {t : TypeId} {fs : Array Field} {d : K τ α} {Q : α → Prop} (hu : P.underlying t = some (.struct fs)) (hc : P.cellsOf t = d.sz) (h : CameFs κ P fs.toList 0 d Q) : Came κ P t d Q := by
  intro H enc w base spare held fuel cs x hx hw
  obtain ⟨xs, n, rfl, rfl, hl, hsz, hel⟩ := DataW.trod_struct hu hx
  obtain ⟨a, ha, hq⟩ := h H enc w base spare held n cs xs (by simpa using hsz) (by omega) (fun i f hf => hel i f (by simpa using hf)) fun k hk => hw k (by
    simp only [DataW.weights, hu]
    exact hk)
  exact ⟨a, by simpa using ha, hq⟩
theorem Came.struct1 {α : Type} {t : TypeId} {fs : Array Field} {d : K τ α} {Q : α → Prop} (hu : P.underlying t = some (.struct fs)) (hc : P.cellsOf t = d.sz) (h : CameFs κ P fs.toList 0 d Q) : Came κ P t (.iso (fun x => x) (fun x => x) (fun _ => rfl) d) Q := by
  intro H enc w base spare held fuel cs x hx hw
  obtain ⟨a, h1, h2⟩ := Came.struct hu hc h H enc w base spare held fuel cs x hx hw
  exact ⟨a, .iso h1, h2⟩
theorem Came.mono {α : Type} {t : TypeId} {d : K τ α} {Q Q' : α → Prop} (h : Came κ P t d Q) (hq : ∀ a, Q a → Q' a) : Came κ P t d Q' := by
  intro H enc w base spare held fuel cs x hx hw
  obtain ⟨a, h1, h2⟩ := h H enc w base spare held fuel cs x hx hw
  exact ⟨a, h1, hq a h2⟩
theorem Came.i64 {t : TypeId} (hu : P.underlying t = some (.int .i64)) : Came κ P t (K.int .i64) (fun a => -9223372036854775808 ≤ a ∧ a ≤ 9223372036854775807) :=
  (Came.int hu).mono fun a h => by simpa [Lit.wf, IntKind.min, IntKind.max, IntKind.signed, IntKind.bits] using h
theorem Came.u64 {t : TypeId} (hu : P.underlying t = some (.int .u64)) : Came κ P t (K.int .u64) (fun a => 0 ≤ a ∧ a ≤ 18446744073709551615) :=
  (Came.int hu).mono fun a h => by simpa [Lit.wf, IntKind.min, IntKind.max, IntKind.signed, IntKind.bits] using h
theorem Came.u8 {t : TypeId} (hu : P.underlying t = some (.int .u8)) : Came κ P t (K.int .u8) (fun a => 0 ≤ a ∧ a ≤ 255) :=
  (Came.int hu).mono fun a h => by simpa [Lit.wf, IntKind.min, IntKind.max, IntKind.signed, IntKind.bits] using h
/-- An argument that is one struct. -/
theorem arg_agg {α : Type} {t : TypeId} {fs : Array Field} {d : K τ α} {Q : α → Prop} (hu : P.underlying t = some (.struct fs)) (hg : d.isAgg = true) (h : Came κ P t d Q) {r : Reach} {W : World} {b0 : Nat} {v : Value} (hv : Value.okWide P W r b0 t v) {H : Type} {enc : TypeId × Value → H} {base : Nat} {spare : Nat → Bool} {held : Bool}
    {x : DataW H} {p : List MemPlace} (hx : DataW.Trod enc P W base spare held t v x p) (hw : ∀ n ∈ x.weights P t, n ≤ reachBytes) : ∃ a : α, VD κ (inW W) W d a v ∧ Q a := by
  obtain ⟨cs, rfl, _⟩ := okWide_struct hu hv
  obtain ⟨fuel, hf⟩ := hx
  obtain ⟨a, h1, h2⟩ := h H enc W base spare held fuel _ (x, p) hf hw
  exact ⟨a, ⟨cs.toList, h1, by rw [if_pos hg]⟩, h2⟩
/-- An argument that is one cell. -/
theorem arg_one {α : Type} {t : TypeId} {d : K τ α} {Q : α → Prop} (hg : d.isAgg = false) (h : Came κ P t d Q) {W : World} {v : Value} (hc : v.cells.toList = [v]) {H : Type} {enc : TypeId × Value → H} {base : Nat} {spare : Nat → Bool} {held : Bool}
    {x : DataW H} {p : List MemPlace} (hx : DataW.Trod enc P W base spare held t v x p) (hw : ∀ n ∈ x.weights P t, n ≤ reachBytes) : ∃ a : α, VD κ (inW W) W d a v ∧ Q a := by
  obtain ⟨fuel, hf⟩ := hx
  obtain ⟨a, h1, h2⟩ := h H enc W base spare held fuel _ (x, p) hf hw
  rw [hc] at h1
  exact ⟨a, ⟨[v], h1, by rw [if_neg (by rw [hg]; simp)]⟩, h2⟩
theorem arg_slice {t e : TypeId} {Q : List (τ e) → Prop} (hu : P.underlying t = some (.slice e)) (h : Came κ P t (K.sl (τ := τ) e) Q) {r : Reach} {W : World} {b0 : Nat} {v : Value} (hv : Value.okWide P W r b0 t v) {H : Type} {enc : TypeId × Value → H} {base : Nat} {spare : Nat → Bool} {held : Bool}
    {x : DataW H} {p : List MemPlace} (hx : DataW.Trod enc P W base spare held t v x p) (hw : ∀ n ∈ x.weights P t, n ≤ reachBytes) : ∃ a, VD κ (inW W) W (K.sl (τ := τ) e) a v ∧ Q a := by
  obtain ⟨A, len, cap, rfl⟩ := okWide_slice hu hv
  exact arg_one rfl h rfl hx hw
theorem arg_int {t : TypeId} {k : IntKind} {Q : Int → Prop} (hu : P.underlying t = some (.int k)) (h : Came κ P t (K.int (τ := τ) k) Q) {r : Reach} {W : World} {b0 : Nat} {v : Value} (hv : Value.okWide P W r b0 t v) {H : Type} {enc : TypeId × Value → H} {base : Nat} {spare : Nat → Bool} {held : Bool}
    {x : DataW H} {p : List MemPlace} (hx : DataW.Trod enc P W base spare held t v x p) (hw : ∀ n ∈ x.weights P t, n ≤ reachBytes) : ∃ a, VD κ (inW W) W (K.int (τ := τ) k) a v ∧ Q a := by
  obtain ⟨a, rfl, _, _, _⟩ := open_int hu hv hx
  exact arg_one rfl h rfl hx hw
theorem arg_bool {t : TypeId} {Q : Bool → Prop} (hu : P.underlying t = some .bool) (h : Came κ P t (K.bool (τ := τ)) Q) {r : Reach} {W : World} {b0 : Nat} {v : Value} (hv : Value.okWide P W r b0 t v) {H : Type} {enc : TypeId × Value → H} {base : Nat} {spare : Nat → Bool} {held : Bool}
    {x : DataW H} {p : List MemPlace} (hx : DataW.Trod enc P W base spare held t v x p) (hw : ∀ n ∈ x.weights P t, n ≤ reachBytes) : ∃ a, VD κ (inW W) W (K.bool (τ := τ)) a v ∧ Q a := by
  obtain ⟨a, rfl, _, _⟩ := open_bool hu hv hx
  exact arg_one rfl h rfl hx hw
theorem arg_string {t : TypeId} {Q : ByteArray → Prop} (hu : P.underlying t = some .string) (h : Came κ P t (K.str (τ := τ)) Q) {r : Reach} {W : World} {b0 : Nat} {v : Value} (hv : Value.okWide P W r b0 t v) {H : Type} {enc : TypeId × Value → H} {base : Nat} {spare : Nat → Bool} {held : Bool}
    {x : DataW H} {p : List MemPlace} (hx : DataW.Trod enc P W base spare held t v x p) (hw : ∀ n ∈ x.weights P t, n ≤ reachBytes) : ∃ a, VD κ (inW W) W (K.str (τ := τ)) a v ∧ Q a := by
  obtain ⟨a, rfl, _, _, _⟩ := Go.ChangeMaps.open_string hu hv hx
  exact arg_one rfl h rfl hx hw
theorem weights_each {H : Type} : ∀ {ts : List TypeId} {ds : List (DataW H)} {j : Nat} {t : TypeId} {d : DataW H}, ts[j]? = some t → ds[j]? = some d → ∀ n ∈ d.weights P t, n ∈ DataW.weightsEach P ts ds :=
  fun h1 h2 => DataW.weights_mem_each h1 h2
/-- The arguments are what a frame of values says. -/
def ArgsK (κ : (e : Nat) → K τ (τ e)) (W : World) : {α : Type} → Fr τ α → α → List Value → Prop
  | _, .nil, _, vs => vs = []
  | _, .val t k r, x, vs => ∃ v vs', vs = v :: vs' ∧ VD κ (inW W) W k x.1 v ∧ ArgsK κ W r x.2 vs'
  | _, _, _, _ => False
theorem argsK_nil {W : World} {x : Unit} : ArgsK κ W (.nil : Fr τ Unit) x [] := rfl
theorem argsK_cons {W : World} {α β : Type} {t : Nat} {k : K τ α} {r : Fr τ β} {a : α} {b : β} {v : Value} {vs : List Value} (h : VD κ (inW W) W k a v) (h2 : ArgsK κ W r b vs) : ArgsK κ W (.val t k r) (a, b) (v :: vs) := ⟨v, vs, rfl, h, h2⟩
theorem argsK_svs {g : Gh} {W : World} (hg : g.kp = inW W) : ∀ {α : Type} (σ : Fr τ α) (x : α) (vs : List Value), ArgsK κ W σ x vs → All2 (denC κ g W) (σ.svs x) vs
  | _, .nil, x, vs, h => by
    have h : vs = [] := h
    subst h
    exact .nil
  | _, .val t k r, x, vs, h => by
    obtain ⟨v, vs', rfl, h1, h2⟩ := h
    refine .cons (cv_den (g := g) ?_) (argsK_svs hg r x.2 vs' h2)
    rw [hg]
    exact h1
  | _, .arr _ _ _ _, _, _, h => h.elim
  | _, .own _ _ _, _, _, h => h.elim
  | _, .ptr _ _ _ _ _, _, _, h => h.elim
  | _, .aptr _ _ _ _, _, _, h => h.elim
  | _, .ob _ _ _, _, _, h => h.elim
theorem seq_tin : ∀ {α : Type} (σ : Fr τ α) (t n : Nat), σ.seq t = true → t + σ.places.length ≤ n → σ.tin n = true
  | _, .nil, t, n, _, _ => rfl
  | _, .val u k r, t, n, h, hn => by
    simp only [Fr.seq, Bool.and_eq_true] at h
    obtain rfl := beq_eq h.1
    simp only [Fr.places, List.length_cons] at hn
    simp only [Fr.tin, Bool.and_eq_true]
    exact ⟨by simp [Nat.blt]; omega, seq_tin r (u + 1) n h.2 (by omega)⟩
  | _, .arr u m k r, t, n, h, hn => by
    simp only [Fr.seq, Bool.and_eq_true] at h
    obtain rfl := beq_eq h.1
    simp only [Fr.places, List.length_cons] at hn
    simp only [Fr.tin, Bool.and_eq_true]
    exact ⟨by simp [Nat.blt]; omega, seq_tin r (u + 1) n h.2 (by omega)⟩
  | _, .own _ _ _, _, _, h, _ => by simp [Fr.seq] at h
  | _, .ptr _ _ _ _ _, _, _, h, _ => by simp [Fr.seq] at h
  | _, .aptr _ _ _ _, _, _, h, _ => by simp [Fr.seq] at h
  | _, .ob _ _ _, _, _, h, _ => by simp [Fr.seq] at h
/-- What a law's contract says of its call. -/
theorem law_calls {α : Type} {i : Fr τ α} {F : Func} {f : Nat} {n : α → Option (Bool × Unit)} {code : Code} (hS : Sound κ P (⟨i, .val 1000 .bool .nil, n, 0⟩ : Ctr τ) f) (hi : i.seq 0 = true) (hf : P.funcs[f]? = some F) (hn : (F.name == "runtime.NumGoroutine") = false) (hb : F.body = some code)
    {x : α} {b : Bool} (hx : n x = some (b, ())) {W : World} {vals : List Value} (ha : ArgsK κ W i x vals) : Calls P f vals.toArray W fun e W' => e = .returned (.bool b) ∧ Below W.heap.size W W' := by
  obtain ⟨t1, t2, t3, t4, _, _⟩ := seq_tab i 0 x hi
  have hkp : (⟨fun _ => none, fun _ _ => none, fun p => if p < W.heap.size then .keep else .free⟩ : Gh).kp = inW W := by
    funext p
    simp only [Gh.kp, inW]
    by_cases h : p < W.heap.size <;> simp [h]
  have ha2 := argsK_svs hkp i x vals ha
  have hlen : vals.length = i.places.length := by rw [← ha2.length, t1]
  have hD := hS x (b, ()) hx ⟨fun _ => none, fun _ _ => none, fun p => if p < W.heap.size then .keep else .free⟩ W vals (fun p => by
      by_cases h : p < W.heap.size
      · simp [h]
      · simp [h]; omega) (fun q _ => ⟨rfl, fun _ => rfl⟩) ⟨fun d B e => (by rw [Fr.build, t3] at e; cases e), fun q R e => (by rw [Fr.build, t4] at e; cases e)⟩ (seq_tin i 0 _ hi (by omega)) hlen (fun t v hv => by
      obtain ⟨cv, k1, k2⟩ := ha2.get' t v hv
      have := t2 t
      rw [if_pos (Nat.zero_le _), Nat.sub_zero, k1] at this
      have e : (i.build x).t t = .c cv := this
      rw [e]
      exact k2)
  unfold Doc at hD
  rw [run_enter hf hn hb] at hD
  simp only at hD
  refine hD.mono ?_
  rintro e W' ⟨v, rfl, g', vs, hfin, hM, rfl, hnr, hr, _⟩
  have hnr : vs.length = 1 := hnr
  match vs, hnr with
  | [u], _ =>
    have h1 : u = .bool b := hr 0 u rfl
    subst h1
    refine ⟨rfl, ⟨hfin.os, hfin.tape, hfin.output, hfin.size, fun k hk => (hfin.old k (.inl ?_)).2⟩⟩
    simp [hk]
end Go.Proofs.Ytkbhbiceojmnaaa.E
namespace Go.Proofs.Ytkbhbiceojmnaaa.E
open Go
set_option linter.unusedVariables false
set_option linter.unusedSimpArgs false
variable {τ : Nat → Type} {κ : (e : Nat) → K τ (τ e)} {P : Program} {Γ : Nat → Option (Ct τ)} {S : Nat → Option (Lc τ)}
/-- What a run comes to, by what the results and the state are at its end. -/
def fnX {ρ : Type} (P : Program) (κ : (e : Nat) → K τ (τ e)) (Γ : Nat → Option (Ct τ)) (S : Nat → Option (Lc τ)) (F : Func) (s0 : St τ) (q : List (SV τ) → St τ → Option ρ) : Option ρ :=
  match F.body with
  | some c =>
    run P κ Γ S 0 c s0 fun e s =>
      match e with
      | .normal => (resT P κ s F.results.toList).bind fun xs => q xs s
      | .ret => (resT P κ s F.results.toList).bind fun xs => q xs s
      | _ => none
  | none => none
theorem fn_run {f : Nat} {F : Func} {code : Code} {ρ : Type} (hm : P.follows .mixedOrders = true) (hΓ : GOK κ P Γ) (hf : P.funcs[f]? = some F) (hn : (F.name == "runtime.NumGoroutine") = false) (hb : F.body = some code) (rl : List Nat) (hd : dsts F.ntmps rl code = true)
    (hl : ∀ Z : Zn, Z.rl = rl → F.ntmps ≤ Z.nt → ∀ p ∈ loops 0 code, ∀ C, S p.1 = some C → LoopOK κ P Z p.2 C) {s0 : St τ} {q : List (SV τ) → St τ → Option ρ} {y : ρ} (hE : fnX P κ Γ S F s0 q = some y)
    {g0 : Gh} {w : World} {vals : List Value} (hfree : ∀ p, w.heap.size ≤ p ↔ g0.tag p = .free) (hfresh : ∀ q, s0.n ≤ q → g0.bn q = none ∧ ∀ n, g0.rv q n = none) (hM : Mm κ g0 w s0.b s0.r) (hargs : ∀ t, denS κ g0 w (s0.t t) (vals.getD t undef)) :
    Calls P f vals.toArray w fun e w' => ∃ g' s' xs vs, q xs s' = some y ∧ All2 (denS κ g' w') xs vs ∧ e = .returned (valOf vs) ∧ Mm κ g' w' s'.b s'.r ∧ (∀ p, w'.heap.size ≤ p → g'.tag p = .free) ∧ (∀ p, p < w'.heap.size → g'.tag p ≠ .free) ∧
      (∀ p, g0.tag p = .keep ∨ g0.tag p = .fgn → g'.tag p = g0.tag p ∧ w'.heap[p]? = w.heap[p]?) ∧ w.heap.size ≤ w'.heap.size ∧ w'.os = w.os ∧ w'.tape = w.tape ∧ w'.output = w.output ∧ w.drawn ≤ w'.drawn ∧ ∀ t u, t ∈ rl → vals[t]? = some u → denS κ g' w' (s'.t t) u := by
  unfold fnX at hE
  rw [hb] at hE
  simp only at hE
  refine calls_of_wp hf hb ?_
  obtain ⟨e, s', h1, h2⟩ := run_sound (Z := ⟨w, g0.tag, max vals.length F.ntmps, rl, fun t => vals.getD t undef⟩) hm hΓ code 0 _ _ y (dsts_mono (Nat.le_max_right _ _) _ hd) (hl _ rfl (Nat.le_max_right _ _)) hE
  have hrep : Rep κ ⟨w, g0.tag, max vals.length F.ntmps, rl, fun t => vals.getD t undef⟩ (fun q => s0.n ≤ q) g0 s0 { tmps := vals.toArray ++ Array.replicate (F.ntmps - vals.toArray.size) undef, defers := [] } w := by
    refine ⟨⟨fun p hp => (hfree p).1 hp, fun p hp e => ?_, fun p _ => ⟨rfl, rfl⟩, Nat.le_refl _, rfl, rfl, rfl, Nat.le_refl _⟩, hM, fun t => ?_, fun q hq => hfresh q hq, rfl, ?_, fun t _ => ?_⟩
    · have := (hfree p).2 e
      omega
    · have := hargs t
      simp only [Array.getD_eq_getD_getElem?]
      rcases Nat.lt_or_ge t vals.length with h | h
      · rw [Array.getElem?_append_left (by simpa using h)]
        rw [List.getElem?_toArray, ← List.getD_eq_getElem?_getD]
        exact this
      · rw [List.getD_eq_getElem?_getD, List.getElem?_eq_none h] at this
        rw [Array.getElem?_append_right (by simpa using h), Array.getElem?_replicate]
        split <;> exact this
    · simp
      omega
    · simp only [Array.getD_eq_getD_getElem?, List.getD_eq_getElem?_getD]
      rcases Nat.lt_or_ge t vals.length with h | h
      · rw [Array.getElem?_append_left (by simpa using h), List.getElem?_toArray]
      · rw [Array.getElem?_append_right (by simpa using h), List.getElem?_eq_none h, Array.getElem?_replicate]
        split <;> rfl
  have fin : ∀ a' w' g', ((resT P κ s' F.results.toList).bind fun xs => q xs s') = some y → Rep κ ⟨w, g0.tag, max vals.length F.ntmps, rl, fun t => vals.getD t undef⟩ (fun q => s'.n ≤ q) g' s' a' w' → a'.defers = [] ∧ ∃ v, (results F a'.tmps).run P w' = .ok v w' ∧
      ∃ g' s' xs vs, q xs s' = some y ∧ All2 (denS κ g' w') xs vs ∧ Ending.returned v = .returned (valOf vs) ∧ Mm κ g' w' s'.b s'.r ∧ (∀ p, w'.heap.size ≤ p → g'.tag p = .free) ∧ (∀ p, p < w'.heap.size → g'.tag p ≠ .free) ∧
      (∀ p, g0.tag p = .keep ∨ g0.tag p = .fgn → g'.tag p = g0.tag p ∧ w'.heap[p]? = w.heap[p]?) ∧ w.heap.size ≤ w'.heap.size ∧ w'.os = w.os ∧ w'.tape = w.tape ∧ w'.output = w.output ∧ w.drawn ≤ w'.drawn ∧ ∀ t u, t ∈ rl → vals[t]? = some u → denS κ g' w' (s'.t t) u := by
    intro a' w' g' hfin hg
    obtain ⟨xs, hxs, hq⟩ := Option.bind_eq_some_iff.1 hfin
    obtain ⟨vs, r1, r2⟩ := results_ok (P := P) (F := F) hg.m.blk hg.m.row hg.t hxs
    exact ⟨hg.d, _, r1, g', s', xs, vs, hq, r2, rfl, hg.m, hg.j.free, hg.j.full, hg.j.old, hg.j.size, hg.j.os, hg.j.tape, hg.j.output, hg.j.drawn, fun t u ht hu => by
      have h1 := hg.t t
      have h2 : a'.tmps.getD t undef = vals.getD t undef := hg.k t ht
      rw [h2, List.getD_eq_getElem?_getD, hu] at h1
      exact h1⟩
  refine wp_mono (h1 g0 _ w hrep) ?_
  rintro e' a' w' ⟨he, g', hg'⟩
  rw [he]
  cases e with
  | normal => exact fin a' w' g' h2 hg'
  | ret => exact fin a' w' g' h2 hg'
  | _ => cases h2
end Go.Proofs.Ytkbhbiceojmnaaa.E
namespace Go.Proofs.Ytkbhbiceojmnaaa.E
open Go Go.Shelf Go.RowKit Go.Lib Go.Sort
set_option linter.unusedVariables false
set_option linter.unusedSimpArgs false
variable {τ : Nat → Type} {κ : (e : Nat) → K τ (τ e)} {P : Program}
/-- Plain values alone. -/
def K.flat : {α : Type} → K τ α → Bool
  | _, .int _ => true
  | _, .bool => true
  | _, .str => true
  | _, .unit => true
  | _, .pair a b => a.flat && b.flat
  | _, .iso _ _ _ k => k.flat
  | _, .sl _ => false
  | _, .box _ _ => false
  | _, .clo _ _ => false
  | _, .fnc _ => false
  | _, .fn => false
  | _, .ref _ => false
  | _, .obj _ _ => false
def K.raw : {α : Type} → K τ α → α → List Value
  | _, .int k, n => [.int k n]
  | _, .bool, b => [.bool b]
  | _, .str, s => [.string s]
  | _, .unit, _ => []
  | _, .pair a b, x => a.raw x.1 ++ b.raw x.2
  | _, .iso f _ _ k, x => k.raw (f x)
  | _, _, _ => []
theorem raw_kd {kp : Nat → Prop} {w : World} : ∀ {α : Type} (k : K τ α) (x : α), k.flat = true → KD κ kp w k x (k.raw x)
  | _, .int k, n, _ => .int k n
  | _, .bool, b, _ => .bool b
  | _, .str, s, _ => .str s
  | _, .unit, u, _ => .unit u
  | _, .pair a b, x, h => by
    simp only [K.flat, Bool.and_eq_true] at h
    exact .pair (raw_kd a x.1 h.1) (raw_kd b x.2 h.2)
  | _, .iso f g hfg k, x, h => .iso (raw_kd k (f x) h)
  | _, .sl _, _, h => by cases h
  | _, .box _ _, _, h => by cases h
  | _, .clo _ _, _, h => by cases h
  | _, .fnc _, _, h => by cases h
  | _, .fn, _, h => by cases h
  | _, .ref _, _, h => by cases h
  | _, .obj _ _, _, h => by cases h
theorem kd_raw {kp : Nat → Prop} {w : World} : ∀ {α : Type} {k : K τ α} {x : α} {cs : List Value}, KD κ kp w k x cs → k.flat = true → cs = k.raw x := by
  intro α k x cs h
  induction h with
  | pair _ _ h1 h2 => intro h; simp only [K.flat, Bool.and_eq_true] at h; rw [K.raw, h1 h.1, h2 h.2]
  | iso _ ih => intro h; exact ih h
  | int _ _ => intro _; rfl
  | bool _ => intro _; rfl
  | str _ => intro _; rfl
  | unit _ => intro _; rfl
  | _ => intro h; cases h
theorem raw_len (κ : (e : Nat) → K τ (τ e)) {α : Type} (k : K τ α) (x : α) (h : k.flat = true) : (k.raw x).length = k.sz := (raw_kd (κ := κ) (kp := fun _ => True) (w := default) k x h).len
theorem raw_one (κ : (e : Nat) → K τ (τ e)) {α : Type} (k : K τ α) (x : α) (h : k.flat = true) : ∀ v ∈ k.raw x, v.oneCell' = true := (raw_kd (κ := κ) (kp := fun _ => True) (w := default) k x h).one
theorem all2_raw {kp : Nat → Prop} {w : World} {α : Type} {k : K τ α} (hf : k.flat = true) {l : List α} {inner : List (List Value)} (h : All2 (fun x cs => KD κ kp w k x cs) l inner) : inner = l.map k.raw := by
  apply List.ext_getElem?
  intro j
  rw [List.getElem?_map]
  cases hl : l[j]? with
  | none =>
    have : inner[j]? = none := by
      rw [List.getElem?_eq_none_iff] at hl ⊢
      rw [← h.length]
      exact hl
    rw [this]
    rfl
  | some x =>
    obtain ⟨cs, h1, h2⟩ := h.get j x hl
    rw [h1, kd_raw h2 hf]
    rfl
theorem raw_all2 {kp : Nat → Prop} {w : World} {α : Type} {k : K τ α} (hf : k.flat = true) (l : List α) : All2 (fun x cs => KD κ kp w k x cs) l (l.map k.raw) := .mk (by simp) fun j x cs hx hc => by
  rw [List.getElem?_map, hx] at hc
  injection hc with hc
  rw [← hc]
  exact raw_kd k x hf
/-- A world told by another's blocks and by what it drew. -/
theorem grow_of {w w' : World} (hs : w.heap.size ≤ w'.heap.size) (ho : ∀ p, p < w.heap.size → w'.heap[p]? = w.heap[p]?) (h1 : w'.tape = w.tape) (h2 : w'.os = w.os) (h3 : w'.output = w.output) (h4 : w.drawn ≤ w'.drawn) : ∃ q os', w' = grow (w.drewN q) os' := by
  refine ⟨w'.drawn - w.drawn, w'.heap.extract w.heap.size w'.heap.size, ?_⟩
  obtain ⟨H', T', D', O', U'⟩ := w'
  obtain ⟨H, T, D, O, U⟩ := w
  simp only at *
  unfold World.drewN grow
  subst h1 h2 h3
  congr 1
  · apply Array.ext_getElem?
    intro p
    show H'[p]? = (H ++ H'.extract H.size H'.size)[p]?
    by_cases hp : p < H.size
    · rw [ho p hp, Array.getElem?_append_left hp]
    · rw [Array.getElem?_append_right (by omega), Array.getElem?_extract]
      by_cases hp2 : p < H'.size
      · rw [if_pos (by omega)]
        congr 1
        omega
      · rw [if_neg (by omega), Array.getElem?_eq_none (by omega)]
  · show D' = D + (D' - D)
    omega
theorem cmp_calls {e g : Nat} {F : τ e × τ e × Unit → Option (Int × Unit)} {cf : τ e → τ e → Int} {Fg : Func} {code : Code} (hagg : (κ e).isAgg = true) (hflat : (κ e).flat = true)
    (hS : Sound κ P (⟨.val 0 (κ e) (.val 1 (κ e) .nil), .val 1000 (.int .i64) .nil, F, 0⟩ : Ctr τ) g) (hF : ∀ a b, F (a, b, ()) = some (cf a b, ())) (hf : P.funcs[g]? = some Fg) (hn : (Fg.name == "runtime.NumGoroutine") = false) (hb : Fg.body = some code) (x y : τ e) (W : World) :
    Calls P g #[.agg ((κ e).raw x).toArray, .agg ((κ e).raw y).toArray] W fun ex w' => ex = .returned (.int .i64 (cf x y)) ∧ ∃ q os', w' = grow (W.drewN q) os' := by
  have hv : ∀ (G : Gh) (z : τ e), denC κ G W ((κ e).cv z) (.agg ((κ e).raw z).toArray) := fun G z => cv_den ⟨_, raw_kd _ z hflat, by rw [if_pos hagg]⟩
  have hD := hS (x, y, ()) (cf x y, ()) (hF x y) ⟨fun _ => none, fun _ _ => none, fun p => if p < W.heap.size then .keep else .free⟩ W [.agg ((κ e).raw x).toArray, .agg ((κ e).raw y).toArray] (fun p => by
      by_cases h : p < W.heap.size
      · simp [h]
      · simp [h]; omega) (fun q _ => ⟨rfl, fun _ => rfl⟩) ⟨fun d B e => (by cases e), fun q R e => (by cases e)⟩ rfl rfl (fun t v ht => by
      match t, ht with
      | 0, ht => injection ht with ht; subst ht; exact hv _ x
      | 1, ht => injection ht with ht; subst ht; exact hv _ y
      | t + 2, ht => cases ht)
  unfold Doc at hD
  rw [run_enter hf hn hb] at hD
  simp only at hD
  refine hD.mono ?_
  rintro ex W' ⟨v, rfl, g', vs, hfin, hM, rfl, hnr, hr, _⟩
  have hnr : vs.length = 1 := hnr
  match vs, hnr with
  | [u], _ =>
    have h1 : u = .int .i64 (cf x y) := hr 0 u rfl
    subst h1
    exact ⟨rfl, grow_of hfin.size (fun p hp => (hfin.old p (.inl (by simp [hp]))).2) hfin.tape hfin.os hfin.output hfin.drawn⟩
theorem flat_get {α : Type} [Inhabited α] (f : α → List Value) (k : Nat) (hk : ∀ x, (f x).length = k) : ∀ (l : List α) (t : Nat), t < l.length * k → (l.map f).flatten[t]? = some ((f (l.toArray[t / k]!))[t % k]!)
  | [], t, h => by simp at h
  | x :: l, t, h => by
    have hk0 : 0 < k := by
      rcases Nat.eq_zero_or_pos k with h0 | h0
      · subst h0; simp at h
      · exact h0
    rw [List.map_cons, List.flatten_cons]
    by_cases ht : t < k
    · rw [List.getElem?_append_left (by rw [hk]; exact ht), Nat.div_eq_of_lt ht, Nat.mod_eq_of_lt ht]
      rw [List.getElem?_eq_getElem (by rw [hk]; exact ht)]
      congr 1
      rw [getElem!_pos _ t (by show t < (f _).length; rw [hk]; exact ht)]
      rfl
    · have hd : t / k = (t - k) / k + 1 := by rw [Nat.div_eq_sub_div hk0 (by omega)]
      have hm : t % k = (t - k) % k := Nat.mod_eq_sub_mod (by omega)
      rw [List.getElem?_append_right (by rw [hk]; omega), hk, flat_get f k hk l (t - k) (by simp only [List.length_cons, Nat.add_mul, Nat.one_mul] at h; omega), hd, hm]
      simp
theorem flatK_list {α : Type} [Inhabited α] (f : α → List Value) (k : Nat) (hk : ∀ x, (f x).length = k) (l : List α) : (flatK f k l.toArray).toList = (l.map f).flatten := by
  have hl : (l.map f).flatten.length = l.length * k := by
    induction l with
    | nil => simp
    | cons x l ih => rw [List.map_cons, List.flatten_cons, List.length_append, ih, hk, List.length_cons, Nat.add_mul, Nat.one_mul, Nat.add_comm]
  apply List.ext_getElem?
  intro t
  by_cases ht : t < l.length * k
  · rw [flat_get f k hk l t ht]
    have h2 : t < (flatK f k l.toArray).size := by simpa using ht
    rw [Array.getElem?_toList, Array.getElem?_eq_getElem h2, ← getElem!_pos _ t h2, get_flatK _ _ _ _ (by simpa using ht)]
  · rw [List.getElem?_eq_none (by simp; omega), List.getElem?_eq_none (by rw [hl]; omega)]
/-- The cells of a block, some of them put anew. -/
theorem putCells_take (F cur : Array Value) (o : Nat) (h : o + F.size ≤ cur.size) : (putCells id o F cur).size = cur.size ∧ ((putCells id o F cur).toList.drop o).take F.size = F.toList := by
  refine ⟨by simp [putCells], ?_⟩
  apply List.ext_getElem?
  intro j
  rw [List.getElem?_take]
  by_cases hj : j < F.size
  · rw [if_pos hj, List.getElem?_drop, Array.getElem?_toList, Array.getElem?_toList, putCells, Array.getElem?_mapIdx, Array.getElem?_eq_getElem (by omega : o + j < cur.size), Array.getElem?_eq_getElem hj]
    simp [hj]
  · rw [if_neg hj, Array.getElem?_toList, Array.getElem?_eq_none (by omega)]
theorem sortWorld_heap {α : Type} [Inhabited α] (enc : α → List Value) (k : Nat) (w : World) (p o n : Nat) (d : Array α) (os : Array Obj) {cur : Array Value} {e : Nat} {fz : Nat × Nat} (hh : w.heap[p]? = some (.cells cur e fz)) :
    (sortWorldK enc k w p o n d os).heap[p]? = some (.cells (putCells id o (flatK enc k d) cur) e fz) ∧ ∀ q, q < w.heap.size → q ≠ p → (sortWorldK enc k w p o n d os).heap[q]? = w.heap[q]? := by
  have hp : p < w.heap.size := by
    rcases Nat.lt_or_ge p w.heap.size with h | h
    · exact h
    · rw [Array.getElem?_eq_none h] at hh; cases hh
  have e1 : ∀ q, q < w.heap.size → (sortWorldK enc k w p o n d os).heap[q]? = (w.heap.modify p (onCells (putCells id o (flatK enc k d))))[q]? := fun q hq => by
    show ((w.heap.modify p (onCells (putCells id o (flatK enc k d)))) ++ os)[q]? = _
    rw [Array.getElem?_append_left (by simpa using hq)]
  refine ⟨by rw [e1 p hp, Array.getElem?_modify, if_pos rfl, hh]; rfl, fun q hq hne => by rw [e1 q hq, Array.getElem?_modify, if_neg (Ne.symm hne)]⟩
/-- What the sort answers: core's mergeSort. -/
def sortV {α : Type} (cf : α → α → Int) (l : List α) : List α := l.mergeSort fun x y => !(ltOf cf) y x
theorem sorted_mem {α : Type} [Inhabited α] {lt : α → α → Bool} (hS : SWO lt) (d d' : Array α) (hanti : ∀ x ∈ d.toList, ∀ y ∈ d.toList, lt x y = false → lt y x = false → x = y) (hP : PermIn 0 d.size d d') (hSo : SortedIn lt 0 d.size d') : d'.toList = d.toList.mergeSort (fun x y => !lt y x) := by
  obtain ⟨hsz, _, hperm⟩ := hP
  have e1 : d'.extract 0 d.size = d' := by rw [← hsz]; exact Array.extract_size
  rw [e1, Array.extract_size] at hperm
  refine List.Perm.eq_of_pairwise (le := fun x y => (!lt y x) = true) ?_ ?_ ?_ (hperm.trans (List.mergeSort_perm _ _).symm)
  · intro a b ha hb h1 h2
    simp only [Bool.not_eq_true'] at h1 h2
    exact hanti a (hperm.mem_iff.1 ha) b ((List.mergeSort_perm _ _).mem_iff.1 hb) h2 h1
  · rw [List.pairwise_iff_getElem]
    intro i j hi hj hij
    have hi' : i < d'.size := by simpa using hi
    have hj' : j < d'.size := by simpa using hj
    have := hSo i j (Nat.zero_le _) hij (by omega)
    rw [getElem!_pos d' j hj', getElem!_pos d' i hi'] at this
    simpa using this
  · refine List.pairwise_mergeSort ?_ ?_ _
    · intro a b c h1 h2
      simp only [Bool.not_eq_true'] at h1 h2 ⊢
      exact hS.ntrans c b a h2 h1
    · intro a b
      cases h : lt b a with
      | false => simp
      | true => simp [hS.asymmA h]
set_option maxHeartbeats 1000000 in
theorem sort_soundG {e g f : Nat} {ok : List (τ e) → Bool} {F : τ e × τ e × Unit → Option (Int × Unit)} {cf : τ e → τ e → Int} {Fg Ff : Func} {code codef : Code} {ρ : Go.Shelf.Ren} (d0 : τ e) (hagg : (κ e).isAgg = true) (hflat : (κ e).flat = true) (hsz : 1 ≤ (κ e).sz)
    (hS : Sound κ P (⟨.val 0 (κ e) (.val 1 (κ e) .nil), .val 1000 (.int .i64) .nil, F, 0⟩ : Ctr τ) g) (hF : ∀ a b, F (a, b, ()) = some (cf a b, ())) (hf : P.funcs[g]? = some Fg) (hn : (Fg.name == "runtime.NumGoroutine") = false) (hb : Fg.body = some code)
    (hO : SWO (ltOf cf)) (hT : ∀ l, ok l = true → ∀ x ∈ l, ∀ y ∈ l, (ltOf cf) x y = false → (ltOf cf) y x = false → x = y) (hff : P.funcs[f]? = some Ff) (hfn : (Ff.name == "runtime.NumGoroutine") = false) (hfb : Ff.body = some codef)
    (L : SlLaysF0.n6 P ρ) (hρ : ρ.f 6 = f) (aE : ∀ w, (isAgg (ρ.t 24)).run P w = .ok true w) (zE : ∀ w, (Go.sizeOf (ρ.t 24)).run P w = .ok (κ e).sz w) :
    Sound κ P (⟨.own 0 e (.val 1 (.fnc g) .nil), .own 0 e .nil, fun x => bif decide (x.1.length ≤ 4611686018427387903) && ok x.1 then some (sortV cf x.1, ()) else none, 0⟩ : Ctr τ) f := by
  intro x y hxy g0 w vals hfree hfresh hM _ hlen hargs
  obtain ⟨l, u1, u2⟩ := x
  obtain ⟨hc, h2⟩ := bif_els hxy
  rw [Bool.and_eq_true, decide_eq_true_eq] at hc
  obtain ⟨hc, hok⟩ := hc
  injection h2 with h2
  subst h2
  simp only at hc hok
  have hlen : vals.length = 2 := hlen
  match vals, hlen with
  | [v0, v1], _ =>
    have a0 : g0.rv 0 0 = some v0 ∧ v0.oneCell' = true := hargs 0 v0 rfl
    have a1 : v1 = .func (.func g) #[] #[] := hargs 1 v1 rfl
    obtain ⟨v, ⟨r1, r2⟩, r3⟩ := hM.row 0 ⟨e, l, 0, false⟩ rfl
    have r1 : g0.rv 0 0 = some v := r1
    rw [a0.1] at r1
    injection r1 with r1
    subst r1 a1
    rw [if_neg (by simp)] at r3
    obtain ⟨inner, i1, i2, i3⟩ := r3
    have i1 : All2 (fun x cs => KD κ g0.kp w (κ e) x cs) l inner := i1
    have i2 : Owns w e (κ e).sz v0 l.length inner.flatten := i2
    have hin := all2_raw hflat i1
    have hperm : (sortV cf l).length = l.length := by unfold sortV; exact List.length_mergeSort l
    unfold Doc
    rw [show [v0, Value.func (.func g) #[] #[]].toArray = #[v0, .func (.func g) #[] #[]] from rfl, run_enter hff hfn hfb]
    simp only
    haveI : Inhabited (τ e) := ⟨d0⟩
    -- what a world and its marks must say at the end
    have fin : ∀ (w' : World), w.heap.size ≤ w'.heap.size → w'.os = w.os → w'.tape = w.tape → w'.output = w.output → w.drawn ≤ w'.drawn → (∀ p, p < w.heap.size → ownB v0 ≠ some p → w'.heap[p]? = w.heap[p]?) → Owns w' e (κ e).sz v0 (sortV cf l).length ((sortV cf l).map (κ e).raw).flatten →
        ∃ g' vs, Fin g0 w g' w' ∧ Mm κ g' w' ((Fr.own 0 e .nil : Fr τ _).build (sortV cf l, ())).b ((Fr.own 0 e .nil : Fr τ _).build (sortV cf l, ())).r ∧ Value.tuple #[] = valOf vs ∧ vs.length = 0 ∧
          (∀ (j : Nat) (u : Value), vs[j]? = some u → denS κ g' w' (((Fr.own 0 e .nil : Fr τ _).build (sortV cf l, ())).t (1000 + j)) u) ∧ ∀ (t : Nat) (u : Value), t ∈ (Fr.own 0 e .nil : Fr τ _).keeps → [v0, Value.func (.func g) #[] #[]][t]? = some u → denS κ g' w' (((Fr.own 0 e .nil : Fr τ _).build (sortV cf l, ())).t t) u := by
      intro w' k1 k2 k3 k4 k5 k6 k7
      refine ⟨⟨g0.bn, g0.rv, fun p => if w.heap.size ≤ p ∧ p < w'.heap.size then .fgn else g0.tag p⟩, [], ⟨fun p hp => ?_, fun p hp => ?_, k1, k2, k3, k4, k5⟩, ⟨fun d B hB => (by cases hB), fun q R hR => ?_⟩, rfl, rfl, fun j u hu => (by cases hu), fun t u ht hu => ?_⟩
      · have hlt : p < w.heap.size := by
          rcases Nat.lt_or_ge p w.heap.size with h | h
          · exact h
          · rw [(hfree p).1 h] at hp; rcases hp with hp | hp <;> cases hp
        refine ⟨by dsimp only; rw [if_neg (by omega)], k6 p hlt fun ho => ?_⟩
        have := i3 p ho
        rw [this] at hp
        rcases hp with hp | hp <;> cases hp
      · show (if _ then _ else _) = _
        rw [if_neg (by omega)]
        exact (hfree p).1 (by omega)
      · have hR : tab none [(0, some (⟨e, sortV cf l, 0, false⟩ : Row τ))] q = some R := hR
        by_cases hq : q = 0
        · subst hq
          rw [tab_cons, if_pos rfl] at hR
          injection hR with hR
          subst hR
          refine ⟨v0, ⟨a0.1, r2⟩, ?_⟩
          rw [if_neg (by simp)]
          refine ⟨_, raw_all2 hflat _, k7, fun p hp => ?_⟩
          have hlt : p < w.heap.size := by
            rcases Nat.lt_or_ge p w.heap.size with h | h
            · exact h
            · have := i3 p hp; rw [(hfree p).1 h] at this; cases this
          show (if _ then _ else _) = _
          rw [if_neg (by omega)]
          exact i3 p hp
        · rw [tab_cons, if_neg hq] at hR
          cases hR
      · have ht : t ∈ [0] := ht
        rw [List.mem_singleton] at ht
        subst ht
        injection hu with hu
        subst hu
        exact a0
    rcases i2.2 with ⟨hl0, A, rfl⟩ | ⟨p, q0, cap, cur, fz, rfl, hcap, hh, hfz, m1, m2, m3, m4⟩
    · have hq := AnyF.slices_SortFunc_none L A 0 (.func (.func g) #[] #[]) w
      rw [hρ] at hq
      have hl0 : l = [] := List.eq_nil_of_length_eq_zero hl0
      subst hl0
      refine hq.mono ?_
      rintro ex w' ⟨rfl, rfl⟩
      refine ⟨_, rfl, fin w' (Nat.le_refl _) rfl rfl rfl (Nat.le_refl _) (fun _ _ _ => rfl) ?_⟩
      rw [show sortV cf ([] : List (τ e)) = [] from by unfold sortV; simp]
      exact owns_none w' e _ A
    · have hp : p < w.heap.size := by
        rcases Nat.lt_or_ge p w.heap.size with h | h
        · exact h
        · rw [Array.getElem?_eq_none h] at hh; cases hh
      rcases Nat.eq_zero_or_pos l.length with hl0 | hl0
      · have hq := AnyF.slices_SortFunc_none L (some ⟨p, q0, none⟩) cap (.func (.func g) #[] #[]) w
        rw [hρ] at hq
        have hl0 : l = [] := List.eq_nil_of_length_eq_zero hl0
        subst hl0
        refine hq.mono ?_
        rintro ex w' ⟨rfl, rfl⟩
        refine ⟨_, rfl, fin w' (Nat.le_refl _) rfl rfl rfl (Nat.le_refl _) (fun _ _ _ => rfl) ?_⟩
        rw [show sortV cf ([] : List (τ e)) = [] from by unfold sortV; simp]
        rw [hin] at i2
        exact i2
      · have hk : ∀ x : τ e, ((κ e).raw x).length = (κ e).sz := fun x => raw_len κ (κ e) x hflat
        have hsize : q0 + l.length * (κ e).sz ≤ cur.size := by rw [m3]; exact Nat.add_le_add_left (Nat.mul_le_mul_right _ m1) _
        have hH : HoldsK (κ e).raw (κ e).sz w p q0 l.toArray := by
          intro j hj
          rw [size_flatK] at hj
          have hj : j < l.length * (κ e).sz := hj
          have hjc : q0 + j < cur.size := by omega
          have e1 := flatK_list (κ e).raw (κ e).sz hk l
          rw [← hin, ← m4] at e1
          have e2 : (flatK (κ e).raw (κ e).sz l.toArray)[j]! = cur[q0 + j] := by
            rw [getElem!_pos _ j (by simpa using hj)]
            have := congrArg (·[j]?) e1
            simp only [Array.getElem?_toList, List.getElem?_take, if_pos hj, List.getElem?_drop] at this
            rw [Array.getElem?_eq_getElem (by simpa using hj), Array.getElem?_eq_getElem hjc] at this
            exact Option.some.inj this
          rw [e2]
          constructor
          · unfold World.cell?
            simp only [hh]
            simp [hjc]
          · unfold World.frozen?
            simp only [hh]
            rcases hfz with h | h
            · rw [h]; simp
            · have : ¬ fz.1 ≤ q0 + j := by omega
              simp [this]
        have hq := AnyQ.slices_SortFunc L (κ e).sz aE zE (κ e).raw hk (fun x v hv => raw_one κ (κ e) x hflat v hv) cf hO g #[] p q0 cap l.toArray w (fun args w => run_enter hf hn hb) (fun m os dk hs x y => cmp_calls hagg hflat hS hF hf hn hb x y _) hH hp (by simp; omega)
        rw [hρ] at hq
        refine hq.mono ?_
        rintro ex w' ⟨rfl, d', n, os, hdp, hds, rfl⟩
        have hl2 : d' = (sortV cf l).toArray := by
          have h1 := sorted_mem hO l.toArray d' (hT l hok) hdp hds
          have h1 : d'.toList = sortV cf l := h1
          rw [← h1]
        rw [hl2]
        obtain ⟨s1, s2⟩ := sortWorld_heap (κ e).raw (κ e).sz w p q0 n (sortV cf l).toArray os hh
        have hF2 : (flatK (κ e).raw (κ e).sz (sortV cf l).toArray).size = l.length * (κ e).sz := by rw [size_flatK]; simp [hperm]
        obtain ⟨c1, c2⟩ := putCells_take (flatK (κ e).raw (κ e).sz (sortV cf l).toArray) cur q0 (by rw [hF2]; exact hsize)
        refine ⟨_, rfl, fin _ ?_ rfl rfl rfl (Nat.le_add_right _ _) (fun q hq hne => ?_) ?_⟩
        · show w.heap.size ≤ ((w.heap.modify p _) ++ os).size
          simp
        · exact s2 q hq fun h => hne (by rw [h, ownB_pos hcap])
        · refine ⟨by rw [← flatK_list (κ e).raw (κ e).sz hk, hperm, Array.length_toList]; exact hF2, .inr ⟨p, q0, cap, _, fz, by rw [hperm], hcap, s1, ?_, by rw [hperm]; exact m1, m2, by rw [c1, m3], ?_⟩⟩
          · rw [c1]; exact hfz
          · rw [hperm, ← hF2, c2, flatK_list (κ e).raw (κ e).sz hk]
theorem sort_sound {e g f : Nat} {F : τ e × τ e × Unit → Option (Int × Unit)} {cf : τ e → τ e → Int} {Fg Ff : Func} {code codef : Code} {ρ : Go.Shelf.Ren} (d0 : τ e) (hagg : (κ e).isAgg = true) (hflat : (κ e).flat = true) (hsz : 1 ≤ (κ e).sz)
    (hS : Sound κ P (⟨.val 0 (κ e) (.val 1 (κ e) .nil), .val 1000 (.int .i64) .nil, F, 0⟩ : Ctr τ) g) (hF : ∀ a b, F (a, b, ()) = some (cf a b, ())) (hf : P.funcs[g]? = some Fg) (hn : (Fg.name == "runtime.NumGoroutine") = false) (hb : Fg.body = some code)
    (hO : SWO (ltOf cf)) (hT : ∀ x y, (ltOf cf) x y = false → (ltOf cf) y x = false → x = y) (hff : P.funcs[f]? = some Ff) (hfn : (Ff.name == "runtime.NumGoroutine") = false) (hfb : Ff.body = some codef)
    (L : SlLaysF0.n6 P ρ) (hρ : ρ.f 6 = f) (aE : ∀ w, (isAgg (ρ.t 24)).run P w = .ok true w) (zE : ∀ w, (Go.sizeOf (ρ.t 24)).run P w = .ok (κ e).sz w) :
    Sound κ P (⟨.own 0 e (.val 1 (.fnc g) .nil), .own 0 e .nil, fun x => bif decide (x.1.length ≤ 4611686018427387903) then some (sortV cf x.1, ()) else none, 0⟩ : Ctr τ) f := by
  have h := sort_soundG (ok := fun _ => true) d0 hagg hflat hsz hS hF hf hn hb hO (fun l _ x _ y _ => hT x y) hff hfn hfb L hρ aE zE
  simpa only [Bool.and_true] using h
/-- slices.Clone: the engine tells it where there is an element; where there is none, two facts do. -/
theorem clone_sound {e f : Nat} {F : List (τ e) × Unit → Option (List (τ e) × Unit)} {Ff : Func} {code : Code} (hS : Sound κ P (⟨.val 0 (.sl e) .nil, .own 1000 e .nil, F, 0⟩ : Ctr τ) f) (hff : P.funcs[f]? = some Ff) (hfn : (Ff.name == "runtime.NumGoroutine") = false) (hfb : Ff.body = some code)
    (h0 : ∀ n c w, Calls P f #[.slice none n c] w fun ex w' => ex = .returned (.slice none 0 0) ∧ w' = w)
    (h1 : ∀ a c w, Calls P f #[.slice (some a) 0 c] w fun ex w' => ex = .returned (.slice (some ⟨w.heap.size, 0, none⟩) 0 0) ∧ w' = w.alloc (.cells #[] e)) :
    Sound κ P (⟨.val 0 (.sl e) .nil, .own 1000 e .nil, fun x => bif x.1.isEmpty then some ([], ()) else F x, 0⟩ : Ctr τ) f := by
  intro x y hxy g0 w vals hfree hfresh hM htin hlen hargs
  obtain ⟨l, u⟩ := x
  have hxy : (bif l.isEmpty then some ([], ()) else F (l, u)) = some y := hxy
  cases hl : l.isEmpty with
  | false =>
    rw [hl, cond_false] at hxy
    exact hS (l, u) y hxy g0 w vals hfree hfresh hM htin hlen hargs
  | true =>
    rw [hl, cond_true] at hxy
    injection hxy with hxy
    subst hxy
    have hl : l = [] := by cases l with | nil => rfl | cons a l => cases hl
    subst hl
    have hlen : vals.length = 1 := hlen
    match vals, hlen with
    | [v0], _ =>
      have a0 : KD κ g0.kp w (.sl e) ([] : List (τ e)) [v0] := hargs 0 v0 rfl
      obtain ⟨A, c, css, q1, q2, q3, q4⟩ := a0.slr
      have q1 : v0 = .slice A 0 c := q1
      subst q1
      have fin : ∀ (w' : World) (B : Option Addr), w.heap.size ≤ w'.heap.size → w'.os = w.os → w'.tape = w.tape → w'.output = w.output → w.drawn ≤ w'.drawn → (∀ p, p < w.heap.size → w'.heap[p]? = w.heap[p]?) →
          ∃ g' vs, Fin g0 w g' w' ∧ Mm κ g' w' ((Fr.own 1000 e .nil : Fr τ _).build ([], ())).b ((Fr.own 1000 e .nil : Fr τ _).build ([], ())).r ∧ Value.slice B 0 0 = valOf vs ∧ vs.length = 1 ∧
            (∀ (j : Nat) (u : Value), vs[j]? = some u → denS κ g' w' (((Fr.own 1000 e .nil : Fr τ _).build ([], ())).t (1000 + j)) u) ∧ ∀ (t : Nat) (u : Value), t ∈ (Fr.own 1000 e .nil : Fr τ _).keeps → [Value.slice A 0 c][t]? = some u → denS κ g' w' (((Fr.own 1000 e .nil : Fr τ _).build ([], ())).t t) u := by
        intro w' B k1 k2 k3 k4 k5 k6
        refine ⟨⟨fun _ => none, fun r n => if r = 1000 ∧ n = 0 then some (.slice B 0 0) else none, fun p => if w.heap.size ≤ p ∧ p < w'.heap.size then .fgn else g0.tag p⟩, [.slice B 0 0], ⟨fun p hp => ?_, fun p hp => ?_, k1, k2, k3, k4, k5⟩, ⟨fun d D hB => (by cases hB), fun q R hR => ?_⟩, rfl, rfl, fun j u hu => ?_, fun t u ht hu => (by cases ht)⟩
        · have hlt : p < w.heap.size := by
            rcases Nat.lt_or_ge p w.heap.size with h | h
            · exact h
            · rw [(hfree p).1 h] at hp; rcases hp with hp | hp <;> cases hp
          exact ⟨by dsimp only; rw [if_neg (by omega)], k6 p hlt⟩
        · show (if _ then _ else _) = _
          rw [if_neg (by omega)]
          exact (hfree p).1 (by omega)
        · have hR : tab none [(1000, some (⟨e, [], 0, false⟩ : Row τ))] q = some R := hR
          by_cases hq : q = 1000
          · subst hq
            rw [tab_cons, if_pos rfl] at hR
            injection hR with hR
            subst hR
            refine ⟨.slice B 0 0, ⟨by simp, fun n hn => ?_⟩, ?_⟩
            · have hn : 0 < n := hn
              show (if _ then _ else _) = _
              rw [if_neg (by omega)]
            · rw [if_neg (by simp)]
              exact ⟨[], .nil, owns_none w' e _ B, fun p hp => by cases B <;> cases hp⟩
          · rw [tab_cons, if_neg hq] at hR
            cases hR
        · match j, hu with
          | 0, hu =>
            injection hu with hu
            subst hu
            exact ⟨by simp, rfl⟩
          | j + 1, hu => cases hu
      unfold Doc
      rw [show [Value.slice A 0 c].toArray = #[.slice A 0 c] from rfl, run_enter hff hfn hfb]
      simp only
      cases A with
      | none =>
        refine (h0 0 c w).mono ?_
        rintro ex w' ⟨rfl, rfl⟩
        exact ⟨_, rfl, fin w' none (Nat.le_refl _) rfl rfl rfl (Nat.le_refl _) (fun _ _ => rfl)⟩
      | some a =>
        refine (h1 a c w).mono ?_
        rintro ex w' ⟨rfl, rfl⟩
        exact ⟨_, rfl, fin _ _ (by simp) rfl rfl rfl (Nat.le_refl _) (fun p hp => by show (w.heap.push _)[p]? = _; rw [Array.getElem?_push, if_neg (by omega)])⟩
end Go.Proofs.Ytkbhbiceojmnaaa.E
namespace Go.Proofs.Ytkbhbiceojmnaaa.E
open Go
set_option linter.unusedVariables false
/-! ### words -/
theorem wu (n : Int) : IntKind.wrap .u64 n = n % 18446744073709551616 := IntKind.wrap_u64 n
theorem wui {n : Int} (h : 0 ≤ n ∧ n ≤ 18446744073709551615) : IntKind.wrap .u64 n = n := by rw [wu]; omega
theorem ws (n : Int) : IntKind.wrap .i64 n = (n + 9223372036854775808) % 18446744073709551616 - 9223372036854775808 := IntKind.wrap_i64 n
theorem wsi {n : Int} (h : -9223372036854775808 ≤ n ∧ n ≤ 9223372036854775807) : IntKind.wrap .i64 n = n := by rw [ws]; omega
theorem w8 (n : Int) : IntKind.wrap .u8 n = n % 256 := IntKind.wrap_u8 n
theorem bif_p {α : Type} (p : Prop) [Decidable p] (a b : α) : (bif decide p then a else b) = if p then a else b := by by_cases h : p <;> simp [h]
theorem bif_not {α : Type} (c : Bool) (a b : α) : (bif !c then a else b) = bif c then b else a := by cases c <;> rfl
theorem bif_iff {α : Type} (p q : Prop) [Decidable p] [Decidable q] (a b : α) : (bif decide p == decide q then a else b) = if (p ↔ q) then a else b := by by_cases h : p <;> by_cases k : q <;> simp [h, k]
theorem bif_eq {α : Type} (x y : Int) (a b : α) : (bif x == y then a else b) = if x = y then a else b := by rw [Bool.cond_eq_ite]; simp only [beq_iff_eq]
theorem bif_ne {α : Type} (x y : Int) (a b : α) : (bif x != y then a else b) = if x = y then b else a := by rw [show (x != y) = !(x == y) from rfl, bif_not, bif_eq]
theorem bif_and {α : Type} (c d : Bool) (a b : α) : (bif c && d then a else b) = bif c then (bif d then a else b) else b := by cases c <;> rfl
theorem bif_t {α : Type} {c : Bool} {a b : α} (h : c = true) : (bif c then a else b) = a := by rw [h]; rfl
theorem bif_f {α : Type} {c : Bool} {a b : α} (h : c = false) : (bif c then a else b) = b := by rw [h]; rfl
theorem fdiv_pos {a b : Int} (h : 0 ≤ b) : a.fdiv b = a / b := Int.fdiv_eq_ediv_of_nonneg a h
theorem tdiv_pos {a b : Int} (h : 0 ≤ a) : a.tdiv b = a / b := Int.tdiv_eq_ediv_of_nonneg h
theorem tmod_pos {a b : Int} (h : 0 ≤ a) : a.tmod b = a % b := Int.tmod_eq_emod_of_nonneg h
theorem isW_of {x : Int} (h : 0 ≤ x ∧ x ≤ 18446744073709551615) : isW x = true := by simp [isW, h]
section
variable {τ : Nat → Type}
theorem add64_f {x y c : Int} (hx : 0 ≤ x ∧ x ≤ 18446744073709551615) (hy : 0 ≤ y ∧ y ≤ 18446744073709551615) (hc : 0 ≤ c ∧ c ≤ 1) :
    (cAdd64 (τ := τ)).f (x, y, c, ()) = some ((x + y + c) % 18446744073709551616, (x + y + c) / 18446744073709551616, ()) := by
  show (bif isW x && isW y && decide (0 ≤ c) && decide (c ≤ 1) then _ else none) = _
  rw [isW_of hx, isW_of hy, decide_eq_true hc.1, decide_eq_true hc.2]
  rfl
theorem sub64_f {x y c : Int} (hx : 0 ≤ x ∧ x ≤ 18446744073709551615) (hy : 0 ≤ y ∧ y ≤ 18446744073709551615) (hc : 0 ≤ c ∧ c ≤ 1) :
    (cSub64 (τ := τ)).f (x, y, c, ()) = some ((x - y - c) % 18446744073709551616, -((x - y - c) / 18446744073709551616), ()) := by
  show (bif isW x && isW y && decide (0 ≤ c) && decide (c ≤ 1) then some (_, bif decide (x < y + c) then 1 else 0, ()) else none) = _
  rw [isW_of hx, isW_of hy, decide_eq_true hc.1, decide_eq_true hc.2, bif_p]
  show some _ = some _
  congr 3
  split <;> omega
end
/-! ### loops -/
theorem itr_seq {α β : Type} {ro : α → Option (α ⊕ β)} (σ : Nat → α) {y : β} : ∀ (n k : Nat), (∀ j, k ≤ j → j < k + n → ro (σ j) = some (.inl (σ (j + 1)))) → ro (σ (k + n)) = some (.inr y) → itr ro (n + 1) (σ k) = some y
  | 0, k, _, h => by rw [itr_succ]; rw [Nat.add_zero] at h; rw [h]
  | n + 1, k, hs, h => by
    rw [itr_succ, hs k (Nat.le_refl _) (by omega)]
    exact itr_seq σ n (k + 1) (fun j h1 h2 => hs j (by omega) (by omega)) (by rw [show k + 1 + n = k + (n + 1) from by omega]; exact h)
/-- A loop whose states are known. -/
theorem itrs_seq {α β : Type} {ro : α → Option (α ⊕ β)} (σ : Nat → α) (n : Nat) {x : α} {y : β} (h0 : σ 0 = x) (hs : ∀ j, j < n → ro (σ j) = some (.inl (σ (j + 1)))) (hy : ro (σ n) = some (.inr y)) (hn : n < 18446744073709551616) : itrs ro x = some y := by
  subst h0
  refine itrs_of (itr_seq σ n 0 (fun j _ h => hs j (by omega)) (by rw [Nat.zero_add]; exact hy)) (by omega)
/-- A loop, told by its equation: any function that obeys it on the way. -/
theorem itrs_fun {α β : Type} {ro : α → Option (α ⊕ β)} (I : α → Prop) (μ : α → Nat) (F : α → β) (h : ∀ x, I x → (∃ x', ro x = some (.inl x') ∧ I x' ∧ μ x' < μ x ∧ F x' = F x) ∨ ro x = some (.inr (F x))) {x : α} (hx : I x) (hn : μ x < 18446744073709551616) : itrs ro x = some (F x) := by
  obtain ⟨y, h1, h2⟩ := itrs_inv (fun z => I z ∧ F z = F x) μ (fun y => y = F x) (fun z hz => by
    rcases h z hz.1 with ⟨x', a, b, c, d⟩ | a
    · exact .inl ⟨x', a, ⟨b, d.trans hz.2⟩, c⟩
    · exact .inr ⟨_, a, hz.2⟩) ⟨hx, rfl⟩ hn
  rw [h1, h2]
theorem itr_in {α β : Type} {ro : α → Option (α ⊕ β)} {n : Nat} {x x' : α} (h : ro x = some (.inl x')) : itr ro (n + 1) x = itr ro n x' := by rw [itr_succ, h]
theorem itr_out {α β : Type} {ro : α → Option (α ⊕ β)} {n : Nat} {x : α} {y : β} (h : ro x = some (.inr y)) : itr ro (n + 1) x = some y := by rw [itr_succ, h]
theorem itr_bif {α β : Type} {ro : α → Option (α ⊕ β)} {n : Nat} {x x' : α} {y : β} {c : Bool} (h : ro x = bif c then some (.inr y) else some (.inl x')) : itr ro (n + 1) x = bif c then some y else itr ro n x' := by rw [itr_succ, h]; cases c <;> rfl
/-- A loop's rounds taken one by one. -/
theorem itrs_eq {α β : Type} {ro : α → Option (α ⊕ β)} {n : Nat} {x : α} {o : Option β} (h : itr ro n x = o) (ho : o.isSome = true) (hn : n ≤ 18446744073709551616) : itrs ro x = o := by
  cases o with
  | none => cases ho
  | some y => exact itrs_of h hn
/-- A loop that goes along n places, and leaves at the first bad one. -/
theorem itr_any {α β : Type} {ro : α → Option (α ⊕ β)} (mk : Nat → α) (bad : Nat → Bool) (e y : β) : ∀ (n k : Nat), (∀ j, k ≤ j → j < k + n → ro (mk j) = bif bad j then some (.inr e) else some (.inl (mk (j + 1)))) → ro (mk (k + n)) = some (.inr y) → itr ro (n + 1) (mk k) = some (bif (List.range' k n).any bad then e else y)
  | 0, k, _, h => by rw [itr_succ]; rw [Nat.add_zero] at h; rw [h]; rfl
  | n + 1, k, hs, h => by
    rw [itr_bif (hs k (Nat.le_refl _) (by omega)), List.range'_succ, List.any_cons]
    cases hb : bad k with
    | true => rfl
    | false =>
      rw [itr_any mk bad e y n (k + 1) (fun j h1 h2 => hs j (by omega) (by omega)) (by rw [show k + 1 + n = k + (n + 1) from by omega]; exact h)]
      rfl
theorem itrs_any {α β : Type} {ro : α → Option (α ⊕ β)} (mk : Nat → α) (bad : Nat → Bool) (e y : β) (n : Nat) {x : α} (hx : mk 0 = x) (hs : ∀ j, j < n → ro (mk j) = bif bad j then some (.inr e) else some (.inl (mk (j + 1)))) (h : ro (mk n) = some (.inr y)) (hn : n < 18446744073709551616) : itrs ro x = some (bif (List.range' 0 n).any bad then e else y) := by
  subst hx
  exact itrs_of (itr_any mk bad e y n 0 (fun j _ h => hs j (by omega)) (by rw [Nat.zero_add]; exact h)) (by omega)
/-- A list's element at a place within it. -/
theorem at_get {γ : Type} {l : List γ} {j : Nat} (h : j < l.length) : (bif decide ((0 : Int) ≤ (j : Int)) then l[Int.toNat (j : Int)]? else none) = some l[j] := by
  rw [bif_t (decide_eq_true (by omega)), Int.toNat_natCast, List.getElem?_eq_getElem h]
/-- A loop that adds to a row what each element of a list gives. -/
theorem take_flat {γ δ : Type} (f : γ → List δ) (l : List γ) {j : Nat} (h : j < l.length) : (l.take (j + 1)).flatMap f = (l.take j).flatMap f ++ f l[j] := by
  rw [List.take_succ_eq_append_getElem h, List.flatMap_append]
  simp
/-! ### numbers of two words -/
def wv (h l : Int) : Int := h * 18446744073709551616 + l
def WB (h l : Int) : Prop := (-9223372036854775808 ≤ h ∧ h ≤ 9223372036854775807) ∧ (0 ≤ l ∧ l ≤ 18446744073709551615)
def inR (v : Int) : Prop := -170141183460469231731687303715884105728 ≤ v ∧ v ≤ 170141183460469231731687303715884105727
instance (v : Int) : Decidable (inR v) := inferInstanceAs (Decidable (_ ∧ _))
/-- A number as a pair of words, and 0; or 10 where there is none. -/
def wans (v : Int) : (Int × Int) × Int × Unit :=
  if -170141183460469231731687303715884105728 ≤ v ∧ v ≤ 170141183460469231731687303715884105727 then ((v / 18446744073709551616, v % 18446744073709551616), 0, ()) else ((0, 0), 10, ())
theorem wans_in {v : Int} (h : -170141183460469231731687303715884105728 ≤ v ∧ v ≤ 170141183460469231731687303715884105727) : wans v = ((v / 18446744073709551616, v % 18446744073709551616), 0, ()) := if_pos h
theorem wans_out {v : Int} (h : ¬ (-170141183460469231731687303715884105728 ≤ v ∧ v ≤ 170141183460469231731687303715884105727)) : wans v = ((0, 0), 10, ()) := if_neg h
theorem wans_WB (v : Int) : WB (wans v).1.1 (wans v).1.2 := by
  unfold wans WB
  split
  · refine ⟨⟨?_, ?_⟩, ?_, ?_⟩ <;> simp only <;> omega
  · simp
theorem wv_in {h l : Int} (b : WB h l) : -170141183460469231731687303715884105728 ≤ wv h l ∧ wv h l ≤ 170141183460469231731687303715884105727 := by
  unfold WB at b; unfold wv; omega
theorem wv_hi {h l : Int} (b : WB h l) : wv h l / 18446744073709551616 = h := by
  unfold WB at b; unfold wv; omega
theorem wv_lo {h l : Int} (b : WB h l) : wv h l % 18446744073709551616 = l := by
  unfold WB at b; unfold wv; omega
theorem wans_wv {h l : Int} (b : WB h l) : wans (wv h l) = ((h, l), 0, ()) := by
  rw [wans_in (wv_in b), wv_hi b, wv_lo b]
theorem wv_of (v : Int) : wv (v / 18446744073709551616) (v % 18446744073709551616) = v := by unfold wv; omega
theorem wv_inj {h l h' l' : Int} (b : WB h l) (b' : WB h' l') (e : wv h l = wv h' l') : h = h' ∧ l = l' := by
  unfold WB at b b'; unfold wv at e; omega
theorem WB_zero : WB 0 0 := by unfold WB; omega
theorem WB_of {a : Int} (h : -9223372036854775808 ≤ a ∧ a ≤ 9223372036854775807) : WB (a / 18446744073709551616) (a % 18446744073709551616) := by unfold WB; omega
theorem WB_in {v : Int} (h : -170141183460469231731687303715884105728 ≤ v ∧ v ≤ 170141183460469231731687303715884105727) : WB (v / 18446744073709551616) (v % 18446744073709551616) := by unfold WB; omega
def wabs (v : Int) : Int := if v < 0 then -v else v
theorem wabs_in {h l : Int} (b : WB h l) : 0 ≤ wabs (wv h l) ∧ wabs (wv h l) ≤ 170141183460469231731687303715884105728 := by
  have := wv_in b
  unfold wabs
  split <;> omega
theorem wabs_nonneg (v : Int) : 0 ≤ wabs v := by unfold wabs; split <;> omega
def cmpv (a b : Int) : Int := if a < b then -1 else if a = b then 0 else 1
theorem cmpv_cases (a b : Int) : (a < b ∧ cmpv a b = -1) ∨ (a = b ∧ cmpv a b = 0) ∨ (b < a ∧ cmpv a b = 1) := by
  unfold cmpv
  (repeat' split) <;> omega
end Go.Proofs.Ytkbhbiceojmnaaa.E
