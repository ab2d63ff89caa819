-- Written by a program of this session (a changed scratch copy of the print tool): an own text, not the kit's print.
/- The statement TimesRefused for every input: the row, out of the pure statement's proof and the walk of the law's function. No condition. -/
import Derived.Test.YtieeaicdpdidpaaRows
import Derived.Test.YtieeaicdpdidpaaPTimesRefusedx0
import Derived.Test.YtieeaicdpdidpaaPureTimesRefused
import Derived.Test.YtieeaicdpdidpaaCame
import Derived.WalkKit
import Derived.ProofKit
import Derived.OpenShut
import Derived.ShutString
import Derived.ChangeOld
import Derived.Below
import Derived.SizedLaws
namespace Go.Proofs.Ytieeaicdpdidpaa.timesRefused
open Go.ChangeShapes Go.WideShapes Go.ChangeAt Go.RowKit
open Go.ChangeMaps (open_string shut_string)
open Go.Proofs.YtieeaicdpdidpaaW Go.Proofs.YtieeaicdpdidpaaW.PrintWords Go.Proofs.Ytieeaicdpdidpaa.PTimesRefused
set_option linter.unusedVariables false
theorem own : ownKnob Try.prog.godebug = none := by kernel_rfl
theorem laidOut : laidOutB Try.prog = true := by kernel_rfl
theorem came26 : Came Try.prog 26 k26 Q26 :=
  Came.struct (fun x : S26 => (x.f0, x.f1)) (fun a => ⟨a.1, a.2⟩) (fun _ => rfl) Try.underlying26 (by kernel_rfl) (CameFs.cons (o1 := 1) rfl (by kernel_rfl) rfl (Came.i64 Try.underlying2) (CameFs.one rfl (by kernel_rfl) (Came.u64 Try.underlying24)))
set_option maxRecDepth 100000 in
theorem lifted (os : Os) (started : os.Started) (H : Type) (enc : TypeId × Value → H) :
    ReturnsInHanded {} Try.checked os 10 .any (Rows.timesRefusedSpec.pre6 enc Try.prog Try.f10 Rows.timesRefusedRow.domain false) (Rows.timesRefusedSpec.post enc Try.prog Try.f10 false true false false) := by
  refine returnsInHanded_of_change_sized (C := Try.checked) own started (by kernel_rfl) Try.func10
    (ChangeSpec.witness6 (enc := enc) (C := Try.checked) false ⟨#[], #[(.agg #[(.int .i64 0), (.int .u64 0)]), (.agg #[(.int .i64 0), (.int .u64 0)])], []⟩ 8 (by kernel_rfl) (by kernel_rfl) (by kernel_rfl) (by kernel_rfl)) ?_
  intro W base args ds gs before hval0 hW hcnd hsz0 _
  have hsz : (DataW.weightsEach Try.prog (Try.f10.params.toList ++ Rows.timesRefusedSpec.plain.varTypes Try.prog) (ds ++ gs)).all (· ≤ reachBytes) = true := hsz0
  have hval : ∀ (j : Nat) t v, Try.f10.params[j]? = some t → args[j]? = some v → Value.okWide Try.prog W .any base t v := hval0
  have hW' := hW
  obtain ⟨p, q, hA0, hV, rfl, hfz, hnd⟩ := hW
  have hA : DataW.TrodAll enc Try.prog W 0 (fun _ => true) true Try.f10.params.toList args.toList ds p := hA0
  rw [Try.params10] at hA hval hsz
  obtain ⟨v0, vs0, d0, ds0, p0, q0, hargs, rfl, rfl, h0, r0⟩ := trodAll_cons hA
  obtain ⟨v1, vs1, d1, ds1, p1, q1, rfl, rfl, rfl, h1, r1⟩ := trodAll_cons r0
  obtain ⟨rfl, rfl, rfl⟩ := trodAll_nil r1
  obtain rfl : args = #[v0, v1] := by cases args; simp_all
  obtain ⟨rfl, rfl⟩ := trodVars_none hV
  have hwt : ∀ (j : Nat) t d, [26, 26][j]? = some t → [d0, d1][j]? = some d → ∀ n ∈ DataW.weights Try.prog t d, n ≤ reachBytes := fun j t d h1 h2 n hn => by
    have := List.all_eq_true.1 hsz n (weights_each (j := j) (by simpa using (List.getElem?_append_left (l₂ := Rows.timesRefusedSpec.plain.varTypes Try.prog) (List.getElem?_eq_some_iff.1 h1).1).trans h1) (by simpa using h2) n hn)
    simpa using this
  have k0 := h0
  have lt0 : ∀ x ∈ p0, x.block < W.heap.size := by obtain ⟨m, hm⟩ := k0; exact DataW.trod_lt m _ _ _ hm
  obtain ⟨cs0, a0, rfl, hk0, y0⟩ := arg_agg Try.underlying26 came26 (hval 0 26 v0 rfl rfl) h0 (hwt 0 26 d0 rfl rfl)
  obtain rfl := k26_open hk0
  have k1 := h1
  have lt1 : ∀ x ∈ p1, x.block < W.heap.size := by obtain ⟨m, hm⟩ := k1; exact DataW.trod_lt m _ _ _ hm
  obtain ⟨cs1, a1, rfl, hk1, y1⟩ := arg_agg Try.underlying26 came26 (hval 1 26 v1 rfl rfl) h1 (hwt 1 26 d1 rfl rfl)
  obtain rfl := k26_open hk1
  clear hA0 hval0 hsz0 hsz hwt
  have hp := TimesRefused_pure a0 a1 y0 y1
  refine (TF.TimesRefused.calls a0.f0 a0.f1 a1.f0 a1.f1 true W  hp).mono fun e W' ⟨he, bel0⟩ => ?_
  have bel : Below W.heap.size W W' := bel0
  subst he
  exact ⟨_, rfl, _, _, _, [], _, [], hW', trodAll_mk1 (shut_bool Try.underlying4 _), (trodAll_cons_mk (Below.trod laidOut (by kernel_rfl) (of_decide_eq_true (by kernel_rfl)) k0 bel lt0) (trodAll_cons_mk (Below.trod laidOut (by kernel_rfl) (of_decide_eq_true (by kernel_rfl)) k1 bel lt1) trodAll_mk0)), rfl, bel.frame _, fun h => by cases h⟩
theorem over : Rows.timesRefusedRow.holds Try.pinned (OpenSpec.ofChange Rows.timesRefusedSpec) :=
  OpenClaim.holds_of_wide 10 Try.f10 rfl rfl rfl rfl rfl rfl rfl ⟨rfl, rfl, rfl, rfl, rfl⟩ rfl rfl rfl rfl rfl (by kernel_rfl) Try.func10 (by kernel_rfl)
    (of_decide_eq_true (by kernel_rfl)) (by unfold Func.isWrapper; first | (rw [if_pos (by decide +kernel)]; kernel_rfl) | (rw [if_neg (by decide +kernel)]; exact ⟨rfl, rfl⟩))
    (fun os started H enc _ => lifted os started H enc)
theorem proved : Rows.TimesRefusedSaid := over
end Go.Proofs.Ytieeaicdpdidpaa.timesRefused
namespace Go.Proofs.Ytieeaicdpdidpaa
/-- The row, under a short name, for the claim. -/
theorem timesRefused_holds : Rows.TimesRefusedSaid := timesRefused.proved
#print axioms timesRefused_holds
end Go.Proofs.Ytieeaicdpdidpaa
