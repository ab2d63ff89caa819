/- The statement TimesPowers for every input: the plain facts on the functions' results, and the row. No condition. -/
import Derived.Test.YtieeaicdpdidpaaGF0
import Derived.Test.YtieeaicdpdidpaaGE1
import Derived.Test.YtieeaicdpdidpaaRows
import Derived.Test.YtieeaicdpdidpaaChecked
namespace Go.Proofs.Ytieeaicdpdidpaa.E
open Go
def PTimesPowers : Prop := ∀ (a0 : Int), (-9223372036854775808 ≤ a0 ∧ a0 ≤ 9223372036854775807) → N6 (a0, ()) = some (true, ())
end Go.Proofs.Ytieeaicdpdidpaa.E
namespace Go.Proofs.Ytieeaicdpdidpaa.E
open Go
theorem awake_yes : N11 () = some (true, ()) := by kernel_rfl
end Go.Proofs.Ytieeaicdpdidpaa.E
namespace Go.Proofs.Ytieeaicdpdidpaa.E
open Go
set_option linter.unusedVariables false
set_option maxRecDepth 100000
theorem pureTimesPowers : PTimesPowers := by
  intro k hk
  unfold N6 M6
  simp only []
  rw [awake_yes]
  simp only [Option.bind_some, Bool.not_true, cond_false]
  by_cases h0 : k < 0
  · have e1 : N18 (k, ()) = some ((0, 0), 1, ()) := by
      unfold N18 M18
      simp only []
      rw [bif_t (decide_eq_true h0)]
    have e2 : N19 (k, ()) = some ((0, 0), 1, ()) := by
      unfold N19 M19
      simp only []
      rw [bif_t (decide_eq_true h0)]
    rw [e1, e2]
    rfl
  · by_cases h9 : k > 9
    · have e1 : N18 (k, ()) = some ((0, 0), 10, ()) := by
        unfold N18 M18
        simp only []
        rw [bif_f (decide_eq_false h0), bif_t (decide_eq_true h9)]
      have e2 : N19 (k, ()) = some ((0, 0), 10, ()) := by
        unfold N19 M19
        simp only []
        rw [bif_f (decide_eq_false h0), bif_t (decide_eq_true h9)]
      rw [e1, e2]
      rfl
    · have h10 : k = 0 ∨ k = 1 ∨ k = 2 ∨ k = 3 ∨ k = 4 ∨ k = 5 ∨ k = 6 ∨ k = 7 ∨ k = 8 ∨ k = 9 := by omega
      have e : ∃ y, N18 (k, ()) = some y ∧ N19 (k, ()) = some y := by
        rcases h10 with rfl | rfl | rfl | rfl | rfl | rfl | rfl | rfl | rfl | rfl
        · exact ⟨((0, 1), 0, ()), by kernel_rfl, by kernel_rfl⟩
        · exact ⟨((0, 10000), 0, ()), by kernel_rfl, by kernel_rfl⟩
        · exact ⟨((0, 100000000), 0, ()), by kernel_rfl, by kernel_rfl⟩
        · exact ⟨((0, 1000000000000), 0, ()), by kernel_rfl, by kernel_rfl⟩
        · exact ⟨((0, 10000000000000000), 0, ()), by kernel_rfl, by kernel_rfl⟩
        · exact ⟨((100000000000000000000 / 18446744073709551616, 100000000000000000000 % 18446744073709551616), 0, ()), by kernel_rfl, by kernel_rfl⟩
        · exact ⟨((1000000000000000000000000 / 18446744073709551616, 1000000000000000000000000 % 18446744073709551616), 0, ()), by kernel_rfl, by kernel_rfl⟩
        · exact ⟨((10000000000000000000000000000 / 18446744073709551616, 10000000000000000000000000000 % 18446744073709551616), 0, ()), by kernel_rfl, by kernel_rfl⟩
        · exact ⟨((100000000000000000000000000000000 / 18446744073709551616, 100000000000000000000000000000000 % 18446744073709551616), 0, ()), by kernel_rfl, by kernel_rfl⟩
        · exact ⟨((1000000000000000000000000000000000000 / 18446744073709551616, 1000000000000000000000000000000000000 % 18446744073709551616), 0, ()), by kernel_rfl, by kernel_rfl⟩
      obtain ⟨⟨⟨y0, y1⟩, y2, ⟨⟩⟩, e1, e2⟩ := e
      rw [e1, e2]
      simp
end Go.Proofs.Ytieeaicdpdidpaa.E
namespace Go.Proofs.Ytieeaicdpdidpaa.E
open Go Go.ChangeShapes Go.WideShapes Go.ChangeAt Go.RowKit Go.Proofs.Ytieeaicdpdidpaa
set_option linter.unusedVariables false
set_option maxRecDepth 100000
theorem own : ownKnob Try.prog.godebug = none := by kernel_rfl
theorem laidOut : laidOutB Try.prog = true := by kernel_rfl
theorem lifted (os : Os) (started : os.Started) (H : Type) (enc : TypeId × Value → H) :
    ReturnsInHanded {} Try.checked os 6 .any (Rows.timesPowersSpec.pre6 enc Try.prog Try.f6 Rows.timesPowersRow.domain false) (Rows.timesPowersSpec.post enc Try.prog Try.f6 false true false false) := by
  refine returnsInHanded_of_change_sized (C := Try.checked) own started (by kernel_rfl) Try.func6
    (ChangeSpec.witness6 (enc := enc) (C := Try.checked) false ⟨#[], #[(.int .i64 0)], []⟩ 8 (by kernel_rfl) (by kernel_rfl) (by kernel_rfl) (by kernel_rfl)) ?_
  intro W base args ds gs before hval0 hW hcnd hsz0 _
  have hsz : (DataW.weightsEach Try.prog (Try.f6.params.toList ++ Rows.timesPowersSpec.plain.varTypes Try.prog) (ds ++ gs)).all (· ≤ reachBytes) = true := hsz0
  have hval : ∀ (j : Nat) t v, Try.f6.params[j]? = some t → args[j]? = some v → Value.okWide Try.prog W .any base t v := hval0
  have hW' := hW
  obtain ⟨p, q, hA0, hV, rfl, hfz, hnd⟩ := hW
  have hA : DataW.TrodAll enc Try.prog W 0 (fun _ => true) true Try.f6.params.toList args.toList ds p := hA0
  rw [Try.params6] at hA hval hsz
  obtain ⟨v0, vs0, d0, ds0, p0, q0, hargs, rfl, rfl, h0, r0⟩ := trodAll_cons hA
  obtain ⟨rfl, rfl, rfl⟩ := trodAll_nil r0
  obtain rfl : args = #[v0] := by cases args; simp_all
  obtain ⟨rfl, rfl⟩ := trodVars_none hV
  have hwt : ∀ (j : Nat) t d, [3][j]? = some t → [d0][j]? = some d → ∀ n ∈ DataW.weights Try.prog t d, n ≤ reachBytes := fun j t d h1 h2 n hn => by
    have := List.all_eq_true.1 hsz n (weights_each (j := j) (by simpa using (List.getElem?_append_left (l₂ := Rows.timesPowersSpec.plain.varTypes Try.prog) (List.getElem?_eq_some_iff.1 h1).1).trans h1) (by simpa using h2) n hn)
    simpa using this
  have lt0 : ∀ x ∈ p0, x.block < W.heap.size := by obtain ⟨m, hm⟩ := h0; exact DataW.trod_lt m _ _ _ hm
  obtain ⟨a0, e0, y0⟩ := arg_int Try.underlying3 (Came.i64 Try.underlying3) (hval 0 3 v0 rfl rfl) h0 (hwt 0 3 d0 rfl rfl)
  have hp : N6 (a0, ()) = some (true, ()) := pureTimesPowers a0 y0
  refine (law_calls (i := i6) (n := N6) (F := Try.f6) (code := bodyOf Try.f6) s6 (by kernel_rfl) Try.func6 (by kernel_rfl) (by kernel_rfl) hp (argsK_cons e0 argsK_nil)).mono fun e W' ⟨he, bel⟩ => ?_
  subst he
  exact ⟨_, rfl, _, _, _, [], _, [], hW', trodAll_mk1 (shut_bool Try.underlying4 _), (trodAll_cons_mk (Below.trod laidOut (by kernel_rfl) (of_decide_eq_true (by kernel_rfl)) h0 bel lt0) trodAll_mk0), rfl, bel.frame _, fun h => by cases h⟩
theorem over : Rows.timesPowersRow.holds Try.pinned (OpenSpec.ofChange Rows.timesPowersSpec) :=
  OpenClaim.holds_of_wide 6 Try.f6 rfl rfl rfl rfl rfl rfl rfl ⟨rfl, rfl, rfl, rfl, rfl⟩ rfl rfl rfl rfl rfl (by kernel_rfl) Try.func6 (by kernel_rfl)
    (of_decide_eq_true (by kernel_rfl)) (by unfold Func.isWrapper; first | (rw [if_pos (by decide +kernel)]; kernel_rfl) | (rw [if_neg (by decide +kernel)]; exact ⟨rfl, rfl⟩))
    (fun os started H enc _ => lifted os started H enc)
theorem proved : Rows.TimesPowersSaid := over
end Go.Proofs.Ytieeaicdpdidpaa.E
namespace Go.Proofs.Ytieeaicdpdidpaa
/-- The row, under a short name, for the claim. -/
theorem timesPowers_holds : Rows.TimesPowersSaid := Ytieeaicdpdidpaa.E.proved
#print axioms timesPowers_holds
end Go.Proofs.Ytieeaicdpdidpaa
