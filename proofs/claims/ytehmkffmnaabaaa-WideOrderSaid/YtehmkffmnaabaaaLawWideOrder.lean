-- Written by a program of this session (a changed scratch copy of the print tool): an own text, not the kit's print.
/- The statement WideOrder for every input: the row, out of the pure statement's proof and the walk of the law's function. No condition. -/
import Derived.Test.YtehmkffmnaabaaaRows
import Derived.Test.YtehmkffmnaabaaaPWideOrderx5
import Derived.Test.YtehmkffmnaabaaaPureWideOrder
import Derived.Test.YtehmkffmnaabaaaCame
import Derived.WalkKit
import Derived.ProofKit
import Derived.OpenShut
import Derived.ShutString
import Derived.ChangeOld
import Derived.Below
import Derived.SizedLaws
namespace Go.Proofs.Ytehmkffmnaabaaa.wideOrder
open Go.ChangeShapes Go.WideShapes Go.ChangeAt Go.RowKit
open Go.ChangeMaps (open_string shut_string)
open Go.Proofs.YtehmkffmnaabaaaW Go.Proofs.YtehmkffmnaabaaaW.PrintWords Go.Proofs.Ytehmkffmnaabaaa.PWideOrder
set_option linter.unusedVariables false
theorem own : ownKnob Try.prog.godebug = none := by kernel_rfl
theorem laidOut : laidOutB Try.prog = true := by kernel_rfl
theorem came26 : Came Try.prog 26 k26 Q26 :=
  Came.struct (fun x : S26 => (x.f0, x.f1)) (fun a => ⟨a.1, a.2⟩) (fun _ => rfl) Try.underlying26 (by kernel_rfl) (CameFs.cons (o1 := 1) rfl (by kernel_rfl) rfl (Came.i64 Try.underlying2) (CameFs.one rfl (by kernel_rfl) (Came.u64 Try.underlying24)))
theorem came28 : Came Try.prog 28 k28 Q28 :=
  Came.struct (fun x : S28 => (x.f0, x.f1)) (fun a => ⟨a.1, a.2⟩) (fun _ => rfl) Try.underlying28 (by kernel_rfl) (CameFs.cons (o1 := 2) rfl (by kernel_rfl) rfl came26 (CameFs.one rfl (by kernel_rfl) came26))
set_option maxRecDepth 100000 in
theorem lifted (os : Os) (started : os.Started) (H : Type) (enc : TypeId × Value → H) :
    ReturnsInHanded {} Try.checked os 9 .any (Rows.wideOrderSpec.pre6 enc Try.prog Try.f9 Rows.wideOrderRow.domain false) (Rows.wideOrderSpec.post enc Try.prog Try.f9 false true false false) := by
  refine returnsInHanded_of_change_sized (C := Try.checked) own started (by kernel_rfl) Try.func9
    (ChangeSpec.witness6 (enc := enc) (C := Try.checked) false ⟨#[], #[(.slice none 0 0)], []⟩ 8 (by kernel_rfl) (by kernel_rfl) (by kernel_rfl) (by kernel_rfl)) ?_
  intro W base args ds gs before hval0 hW hcnd hsz0 _
  have hsz : (DataW.weightsEach Try.prog (Try.f9.params.toList ++ Rows.wideOrderSpec.plain.varTypes Try.prog) (ds ++ gs)).all (· ≤ reachBytes) = true := hsz0
  have hval : ∀ (j : Nat) t v, Try.f9.params[j]? = some t → args[j]? = some v → Value.okWide Try.prog W .any base t v := hval0
  have hW' := hW
  obtain ⟨p, q, hA0, hV, rfl, hfz, hnd⟩ := hW
  have hA : DataW.TrodAll enc Try.prog W 0 (fun _ => true) true Try.f9.params.toList args.toList ds p := hA0
  rw [Try.params9] at hA hval hsz
  obtain ⟨v0, vs0, d0, ds0, p0, q0, hargs, rfl, rfl, h0, r0⟩ := trodAll_cons hA
  obtain ⟨rfl, rfl, rfl⟩ := trodAll_nil r0
  obtain rfl : args = #[v0] := by cases args; simp_all
  obtain ⟨rfl, rfl⟩ := trodVars_none hV
  have hwt : ∀ (j : Nat) t d, [22][j]? = some t → [d0][j]? = some d → ∀ n ∈ DataW.weights Try.prog t d, n ≤ reachBytes := fun j t d h1 h2 n hn => by
    have := List.all_eq_true.1 hsz n (weights_each (j := j) (by simpa using (List.getElem?_append_left (l₂ := Rows.wideOrderSpec.plain.varTypes Try.prog) (List.getElem?_eq_some_iff.1 h1).1).trans h1) (by simpa using h2) n hn)
    simpa using this
  have k0 := h0
  have lt0 : ∀ x ∈ p0, x.block < W.heap.size := by obtain ⟨m, hm⟩ := k0; exact DataW.trod_lt m _ _ _ hm
  obtain ⟨A0, c0, l0, rfl, hr0, hc0, y0⟩ := arg_slice Try.underlying22 (Came.slice (B := 32) Try.underlying22 (by kernel_rfl) (by kernel_rfl) came28) (hval 0 22 v0 rfl rfl) h0 (hwt 0 22 d0 rfl rfl)
  clear hA0 hval0 hsz0 hsz hwt
  obtain ⟨k, hp⟩ := WideOrder_pure l0 y0
  refine (octroilaw01_WideOrder.calls k A0 c0 l0 true W hr0 hc0 hp).mono fun e W' ⟨he, bel0⟩ => ?_
  have bel : Below W.heap.size W W' := bel0
  subst he
  exact ⟨_, rfl, _, _, _, [], _, [], hW', trodAll_mk1 (shut_bool Try.underlying4 _), (trodAll_cons_mk (Below.trod laidOut (by kernel_rfl) (of_decide_eq_true (by kernel_rfl)) k0 bel lt0) trodAll_mk0), rfl, bel.frame _, fun h => by cases h⟩
theorem over : Rows.wideOrderRow.holds Try.pinned (OpenSpec.ofChange Rows.wideOrderSpec) :=
  OpenClaim.holds_of_wide 9 Try.f9 rfl rfl rfl rfl rfl rfl rfl ⟨rfl, rfl, rfl, rfl, rfl⟩ rfl rfl rfl rfl rfl (by kernel_rfl) Try.func9 (by kernel_rfl)
    (of_decide_eq_true (by kernel_rfl)) (by unfold Func.isWrapper; first | (rw [if_pos (by decide +kernel)]; kernel_rfl) | (rw [if_neg (by decide +kernel)]; exact ⟨rfl, rfl⟩))
    (fun os started H enc _ => lifted os started H enc)
theorem proved : Rows.WideOrderSaid := over
end Go.Proofs.Ytehmkffmnaabaaa.wideOrder
namespace Go.Proofs.Ytehmkffmnaabaaa
/-- The row, under a short name, for the claim. -/
theorem wideOrder_holds : Rows.WideOrderSaid := wideOrder.proved
#print axioms wideOrder_holds
end Go.Proofs.Ytehmkffmnaabaaa
