-- Written by a program of this session (a changed scratch copy of the print tool): an own text, not the kit's print.
import Derived.Test.YtieeaicdpdidpaaPTFx0
import Derived.Test.YtieeaicdpdidpaaPTFx1
namespace Go.Proofs.Ytieeaicdpdidpaa.PTF
open Go.RowKit Go.Proofs.YtieeaicdpdidpaaW.PrintWords Go.Proofs.YtieeaicdpdidpaaW.PrintLast Go.Proofs.YtieeaicdpdidpaaW.PrintMore
attribute [local go_sem] run_add64 run_sub64
attribute [local go_sem] max2_int min2_int max_two min_two max_three min_three max_four min_four   -- for this text's walks alone
set_option linter.unusedVariables false
set_option linter.unusedSimpArgs false

/-! ### times_quoRem: function 33 -/
mutual
def times_quoRem.l0 : Nat → Int → Int → Int → Int → Int → Int → Int → Option (Int × Int × Int × Int)
  | 0, _, _, _, _, _, _, _ => none
  | k + 1, x1, x2, x3, x9, x10, x11, x12 => if x12 ≥ 0 then (if 0 ≤ x12 then (if (Go.bits .or .u64 (IntKind.u64.wrap (x10 * 2)) (x11 / 9223372036854775808)) > x2 then (times_quoRem.j1 k x1 x2 x3 x9 (Go.bits .or .u64 (IntKind.u64.wrap (x10 * 2)) (x11 / 9223372036854775808)) (Go.bits .or .u64 (IntKind.u64.wrap (x11 * 2)) (Go.bits .and .u64 (shr .u64 x1 x12) 1)) x12 true) else (if (Go.bits .or .u64 (IntKind.u64.wrap (x10 * 2)) (x11 / 9223372036854775808)) = x2 then (times_quoRem.j1 k x1 x2 x3 x9 (Go.bits .or .u64 (IntKind.u64.wrap (x10 * 2)) (x11 / 9223372036854775808)) (Go.bits .or .u64 (IntKind.u64.wrap (x11 * 2)) (Go.bits .and .u64 (shr .u64 x1 x12) 1)) x12 (decide ((Go.bits .or .u64 (IntKind.u64.wrap (x11 * 2)) (Go.bits .and .u64 (shr .u64 x1 x12) 1)) ≥ x3))) else (times_quoRem.j1 k x1 x2 x3 x9 (Go.bits .or .u64 (IntKind.u64.wrap (x10 * 2)) (x11 / 9223372036854775808)) (Go.bits .or .u64 (IntKind.u64.wrap (x11 * 2)) (Go.bits .and .u64 (shr .u64 x1 x12) 1)) x12 false))) else (none)) else (some (0, x9, x10, x11))
def times_quoRem.j1 : Nat → Int → Int → Int → Int → Int → Int → Int → Bool → Option (Int × Int × Int × Int)
  | 0, _, _, _, _, _, _, _, _ => none
  | k + 1, x1, x2, x3, x9, x10, x11, x12, x61 => if x61 = true then (if (sub64Hi x11 x3 0) ≤ 1 then (if 0 ≤ x12 then (times_quoRem.l0 k x1 x2 x3 (Go.bits .or .u64 x9 (shl .u64 1 x12)) (sub64Lo x10 x2 (sub64Hi x11 x3 0)) (sub64Lo x11 x3 0) (wrap64 (x12 - 1))) else (none)) else (none)) else (times_quoRem.l0 k x1 x2 x3 x9 x10 x11 (wrap64 (x12 - 1)))
end
def times_quoRem.f (k : Nat) (a0 : Int) (a1 : Int) (a2 : Int) (a3 : Int) : Option (Int × Int × Int × Int) := if a2 = 0 then (if a3 = 0 then (none) else ((bits_Div64.f k (Int.tmod a0 a3) a1 a3).bind fun bt103 => (some (IntKind.u64.wrap (Int.tdiv a0 a3), bt103.1, 0, bt103.2)))) else (times_quoRem.l0 k a1 a2 a3 0 0 a0 63)
theorem times_quoRem.mono_l : ∀ k, (∀ y0 y1 y2 y3 y4 y5 y6, LeO (times_quoRem.l0 k y0 y1 y2 y3 y4 y5 y6) (times_quoRem.l0 (k + 1) y0 y1 y2 y3 y4 y5 y6)) ∧ (∀ y0 y1 y2 y3 y4 y5 y6 y7, LeO (times_quoRem.j1 k y0 y1 y2 y3 y4 y5 y6 y7) (times_quoRem.j1 (k + 1) y0 y1 y2 y3 y4 y5 y6 y7))
  | 0 => ⟨fun _ _ _ _ _ _ _ r h => by simp [times_quoRem.l0] at h, fun _ _ _ _ _ _ _ _ r h => by simp [times_quoRem.j1] at h⟩
  | k + 1 => by
    obtain ⟨ih0, ih1⟩ := times_quoRem.mono_l k
    refine ⟨?_, ?_⟩
    · intro y0 y1 y2 y3 y4 y5 y6
      unfold times_quoRem.l0
      repeat' first
      | (with_reducible exact ih0 _ _ _ _ _ _ _)
      | (with_reducible exact ih1 _ _ _ _ _ _ _ _)
      | (with_reducible exact bits_Div64.mono _ _ _ _)
      | (with_reducible exact LeO.refl _)
      | (with_reducible exact LeO.none _)
      | (with_reducible refine LeO.ite ?_ ?_)
      | (with_reducible refine LeO.bind ?_ (fun _ => ?_))
      | exact ih0 _ _ _ _ _ _ _
      | exact ih1 _ _ _ _ _ _ _ _
      | exact bits_Div64.mono _ _ _ _
      | exact LeO.none _
      | refine LeO.ite ?_ ?_
      | refine LeO.bind ?_ (fun _ => ?_)
    · intro y0 y1 y2 y3 y4 y5 y6 y7
      unfold times_quoRem.j1
      repeat' first
      | (with_reducible exact ih0 _ _ _ _ _ _ _)
      | (with_reducible exact ih1 _ _ _ _ _ _ _ _)
      | (with_reducible exact bits_Div64.mono _ _ _ _)
      | (with_reducible exact LeO.refl _)
      | (with_reducible exact LeO.none _)
      | (with_reducible refine LeO.ite ?_ ?_)
      | (with_reducible refine LeO.bind ?_ (fun _ => ?_))
      | exact ih0 _ _ _ _ _ _ _
      | exact ih1 _ _ _ _ _ _ _ _
      | exact bits_Div64.mono _ _ _ _
      | exact LeO.none _
      | refine LeO.ite ?_ ?_
      | refine LeO.bind ?_ (fun _ => ?_)
theorem times_quoRem.mono : ∀ a0 a1 a2 a3 k, LeO (times_quoRem.f k a0 a1 a2 a3) (times_quoRem.f (k + 1) a0 a1 a2 a3) := by
  intro a0 a1 a2 a3 k
  obtain ⟨ih0, ih1⟩ := times_quoRem.mono_l k
  unfold times_quoRem.f
  repeat' first
      | (with_reducible exact ih0 _ _ _ _ _ _ _)
      | (with_reducible exact ih1 _ _ _ _ _ _ _ _)
      | (with_reducible exact bits_Div64.mono _ _ _ _)
      | (with_reducible exact LeO.refl _)
      | (with_reducible exact LeO.none _)
      | (with_reducible refine LeO.ite ?_ ?_)
      | (with_reducible refine LeO.bind ?_ (fun _ => ?_))
      | exact ih0 _ _ _ _ _ _ _
      | exact ih1 _ _ _ _ _ _ _ _
      | exact bits_Div64.mono _ _ _ _
      | exact LeO.none _
      | refine LeO.ite ?_ ?_
      | refine LeO.bind ?_ (fun _ => ?_)
set_option maxHeartbeats 8000000 in
set_option maxRecDepth 100000 in
theorem times_quoRem.calls (k : Nat) (a0 : Int) (a1 : Int) (a2 : Int) (a3 : Int) (r1 : Int) (r2 : Int) (r3 : Int) (r4 : Int) (w : World) (h : times_quoRem.f k a0 a1 a2 a3 = some (r1, r2, r3, r4)) :
    Calls Try.prog 33 #[.int .u64 a0, .int .u64 a1, .int .u64 a2, .int .u64 a3] w fun e w' => e = .returned (.tuple #[.int .u64 r1, .int .u64 r2, .int .u64 r3, .int .u64 r4]) ∧ Below w.heap.size w w' := by
  have HB := Aside0.mk (Below.refl w.heap.size w)
  have H : (if a2 = 0 then (if a3 = 0 then (none) else ((bits_Div64.f k (Int.tmod a0 a3) a1 a3).bind fun bt103 => (some (IntKind.u64.wrap (Int.tdiv a0 a3), bt103.1, 0, bt103.2)))) else (times_quoRem.l0 k a1 a2 a3 0 0 a0 63)) = some (r1, r2, r3, r4) := h
  clear h
  by_cases c5 : a2 = 0
  · rw [if_pos c5] at H
    have c5b0 : (a2 == 0) = true := beq_iff_eq.mpr c5
    have c5b1 : (a2 != 0) = false := bne_eq_false_iff_eq.mpr c5
    clear c5
    by_cases c6 : a3 = 0
    · rw [if_pos c6] at H
      exact absurd H (by simp)
    · rw [if_neg c6] at H
      have c6b0 : (a3 == 0) = false := beq_eq_false_iff_ne.mpr c6
      have c6b1 : (a3 != 0) = true := bne_iff_ne.mpr c6
      replace H := Option.bind_eq_some_iff.mp H
      obtain ⟨⟨t103, t104⟩, A70, H⟩ := H
      replace H : (some (IntKind.u64.wrap (Int.tdiv a0 a3), t103, 0, t104)) = some (r1, r2, r3, r4) := H
      have A7 := Aside0.mk A70
      clear A70
      simp only [Option.some.injEq, Prod.mk.injEq] at H
      obtain ⟨rfl, rfl, rfl, rfl⟩ := H
      go_enter Try.func33, Try.ntmps33
      go_wp2_with (first | (go_at_call 48; (with_reducible refine (bits_Div64.calls k (Int.tmod a0 a3) a1 a3 t103 t104 _ A7.out).mono ?_); rintro e w8 ⟨rfl, hb⟩; have n0_ := Aside0.mk (below_step (by repeat (first | (with_reducible first | exact HB.out | apply below_alloc | apply pw_below_drewN | apply below_drew1) | exact HB.out)) hb); clear HB; have HB := n0_; clear n0_; (try clear hb); (try clear hb2); (try clear hk); (try clear hi)))
      repeat (go_quiet (first | (go_at_call 48; (with_reducible refine (bits_Div64.calls k (Int.tmod a0 a3) a1 a3 t103 t104 _ A7.out).mono ?_); rintro e w8 ⟨rfl, hb⟩; have n0_ := Aside0.mk (below_step (by repeat (first | (with_reducible first | exact HB.out | apply below_alloc | apply pw_below_drewN | apply below_drew1) | exact HB.out)) hb); clear HB; have HB := n0_; clear n0_; (try clear hb); (try clear hb2); (try clear hk); (try clear hi))); try go_wp2_with (first | (go_at_call 48; (with_reducible refine (bits_Div64.calls k (Int.tmod a0 a3) a1 a3 t103 t104 _ A7.out).mono ?_); rintro e w8 ⟨rfl, hb⟩; have n0_ := Aside0.mk (below_step (by repeat (first | (with_reducible first | exact HB.out | apply below_alloc | apply pw_below_drewN | apply below_drew1) | exact HB.out)) hb); clear HB; have HB := n0_; clear n0_; (try clear hb); (try clear hb2); (try clear hk); (try clear hi))))
      refine bodyPost_ret (results_list (rs := [.tmp 8, .tmp 9, .tmp 10, .tmp 11]) rfl (by simp) (.tmp (.tmp (.tmp (.tmp .nil))))) rfl ?_
      exact ⟨by first | rfl | (simp [errW_none, errW_some] <;> rfl) | (simp [*, errW_none, errW_some] <;> rfl), by repeat (first | (with_reducible first | exact HB.out | apply below_alloc | apply pw_below_drewN | apply below_drew1) | exact HB.out)⟩
  · rw [if_neg c5] at H
    have c5b0 : (a2 == 0) = false := beq_eq_false_iff_ne.mpr c5
    have c5b1 : (a2 != 0) = true := bne_iff_ne.mpr c5
    have H' := Aside0.mk H
    clear H
    go_enter Try.func33, Try.ntmps33
    go_wp2
    repeat (go_quiet (fail); try go_wp2)
    go_loopg [9, 10, 11, 12] k (fun kq v9 v10 v11 v12 w' => ∃ (x9_1 : Int) (x10_1 : Int) (x11_1 : Int) (x12_1 : Int), v9 = .int .u64 x9_1 ∧ v10 = .int .u64 x10_1 ∧ v11 = .int .u64 x11_1 ∧ v12 = .int .i64 x12_1 ∧ Aside0 (times_quoRem.l0 kq a1 a2 a3 x9_1 x10_1 x11_1 x12_1 = some (r1, r2, r3, r4)) ∧ Aside0 (kq ≤ k) ∧ Aside0 (Below w.heap.size w w'))
    case atStart => exact ⟨(0), (0), (a0), (63), (by first | rfl | (simp; done) | (simp [*]; done)), (by first | rfl | (simp; done) | (simp [*]; done)), (by first | rfl | (simp; done) | (simp [*]; done)), (by first | rfl | (simp; done) | (simp [*]; done)), H', ⟨Nat.le_refl _⟩, ⟨by repeat (first | (with_reducible first | exact HB.out | apply below_alloc | apply pw_below_drewN | apply below_drew1) | exact HB.out)⟩⟩
    case round =>
      clear H'
      try clear p2
      try clear c3
      try clear c5
      try clear c5b0
      try clear c5b1
      try clear c6
      try clear c6b0
      try clear c6b1
      obtain ⟨x9_1, x10_1, x11_1, x12_1, rfl, rfl, rfl, rfl, HA, HK1, HB⟩ := hrel
      cases gk with
      | zero => exact absurd HA.out (by simp [times_quoRem.l0])
      | succ k1 =>
        have H := HA.out
        clear HA
        simp only [times_quoRem.l0] at H
        by_cases c9 : x12_1 ≥ 0
        · rw [if_pos c9] at H
          have c9b0 : decide (0 ≤ x12_1) = true := decide_eq_true c9
          clear c9
          by_cases c10 : 0 ≤ x12_1
          · rw [if_pos c10] at H
            have c10b0 := eq_true c10
            have c10b1 : decide (0 ≤ x12_1) = true := decide_eq_true c10
            clear c10
            obtain ⟨ji11, hji11⟩ : ∃ j_ : Int, (shr .u64 a1 x12_1) = j_ := ⟨_, rfl⟩
            replace H : (if (Go.bits .or .u64 (IntKind.u64.wrap (x10_1 * 2)) (x11_1 / 9223372036854775808)) > a2 then (times_quoRem.j1 k1 a1 a2 a3 x9_1 (Go.bits .or .u64 (IntKind.u64.wrap (x10_1 * 2)) (x11_1 / 9223372036854775808)) (Go.bits .or .u64 (IntKind.u64.wrap (x11_1 * 2)) (Go.bits .and .u64 (ji11) 1)) x12_1 true) else (if (Go.bits .or .u64 (IntKind.u64.wrap (x10_1 * 2)) (x11_1 / 9223372036854775808)) = a2 then (times_quoRem.j1 k1 a1 a2 a3 x9_1 (Go.bits .or .u64 (IntKind.u64.wrap (x10_1 * 2)) (x11_1 / 9223372036854775808)) (Go.bits .or .u64 (IntKind.u64.wrap (x11_1 * 2)) (Go.bits .and .u64 (ji11) 1)) x12_1 (decide ((Go.bits .or .u64 (IntKind.u64.wrap (x11_1 * 2)) (Go.bits .and .u64 (ji11) 1)) ≥ a3))) else (times_quoRem.j1 k1 a1 a2 a3 x9_1 (Go.bits .or .u64 (IntKind.u64.wrap (x10_1 * 2)) (x11_1 / 9223372036854775808)) (Go.bits .or .u64 (IntKind.u64.wrap (x11_1 * 2)) (Go.bits .and .u64 (ji11) 1)) x12_1 false))) = some (r1, r2, r3, r4) := by first | (rw [hji11] at H; exact H) | (simp only [hji11] at H ⊢; exact H)
            have hji11_ : (a1 / 2 ^ min x12_1.toNat 64) = ji11 := hji11
            have hji11z : x12_1 ≤ 64 → (a1 / 2 ^ x12_1.toNat) = ji11 := shr_small hji11
            have HC12 := Aside0.mk H
            clear H
            go_upto_region 11 with (fail)
            repeat (go_quiet (fail); go_upto_region 11 with (fail))
            go_cut [61] (fun v61 wc => ∃ (kq : Nat) (x61_11 : Bool), v61 = .bool x61_11 ∧ Aside0 (times_quoRem.j1 kq a1 a2 a3 x9_1 (Go.bits .or .u64 (IntKind.u64.wrap (x10_1 * 2)) (x11_1 / 9223372036854775808)) (Go.bits .or .u64 (IntKind.u64.wrap (x11_1 * 2)) (Go.bits .and .u64 (ji11) 1)) x12_1 x61_11 = some (r1, r2, r3, r4)) ∧ Aside0 (kq ≤ k1) ∧ Aside0 (Below w.heap.size w wc))
            case first =>
              have H := HC12.out
              clear HC12
              by_cases c13 : (Go.bits .or .u64 (IntKind.u64.wrap (x10_1 * 2)) (x11_1 / 9223372036854775808)) > a2
              · rw [if_pos c13] at H
                have c13b0 : decide (a2 < (Go.bits .or .u64 (IntKind.u64.wrap (x10_1 * 2)) (x11_1 / 9223372036854775808))) = true := decide_eq_true c13
                clear c13
                (first | rw [c13b0] | (simp only [i64_w, i32_w]; rw [c13b0]) | skip)
                have H' := Aside0.mk H
                clear H
                go_wp2
                repeat (go_quiet (fail); try go_wp2)
                go_meet
                case rel => exact ⟨_, (true), (by first | rfl | (simp; done) | (simp [*]; done)), H', ⟨by have := HK1.out; first | omega | exact Nat.le_refl _⟩, ⟨by repeat (first | (with_reducible first | exact HB.out | apply below_alloc | apply pw_below_drewN | apply below_drew1) | exact HB.out)⟩⟩
              · rw [if_neg c13] at H
                have c13b0 : decide (a2 < (Go.bits .or .u64 (IntKind.u64.wrap (x10_1 * 2)) (x11_1 / 9223372036854775808))) = false := decide_eq_false c13
                clear c13
                (first | rw [c13b0] | (simp only [i64_w, i32_w]; rw [c13b0]) | skip)
                by_cases c14 : (Go.bits .or .u64 (IntKind.u64.wrap (x10_1 * 2)) (x11_1 / 9223372036854775808)) = a2
                · rw [if_pos c14] at H
                  have c14b0 : ((Go.bits .or .u64 (IntKind.u64.wrap (x10_1 * 2)) (x11_1 / 9223372036854775808)) == a2) = true := beq_iff_eq.mpr c14
                  have c14b1 : ((Go.bits .or .u64 (IntKind.u64.wrap (x10_1 * 2)) (x11_1 / 9223372036854775808)) != a2) = false := bne_eq_false_iff_eq.mpr c14
                  clear c14
                  have H' := Aside0.mk H
                  clear H
                  go_wp2
                  repeat (go_quiet (fail); try go_wp2)
                  go_meet
                  case rel => exact ⟨_, (decide ((Go.bits .or .u64 (IntKind.u64.wrap (x11_1 * 2)) (Go.bits .and .u64 (ji11) 1)) ≥ a3)), (by first | rfl | (simp; done) | (simp only [← hji11] <;> (first | rfl | simp)) | (simp [*]; done)), H', ⟨by have := HK1.out; first | omega | exact Nat.le_refl _⟩, ⟨by repeat (first | (with_reducible first | exact HB.out | apply below_alloc | apply pw_below_drewN | apply below_drew1) | exact HB.out)⟩⟩
                · rw [if_neg c14] at H
                  have c14b0 : ((Go.bits .or .u64 (IntKind.u64.wrap (x10_1 * 2)) (x11_1 / 9223372036854775808)) == a2) = false := beq_eq_false_iff_ne.mpr c14
                  have c14b1 : ((Go.bits .or .u64 (IntKind.u64.wrap (x10_1 * 2)) (x11_1 / 9223372036854775808)) != a2) = true := bne_iff_ne.mpr c14
                  have H' := Aside0.mk H
                  clear H
                  go_wp2
                  repeat (go_quiet (fail); try go_wp2)
                  go_meet
                  case rel => exact ⟨_, (false), (by first | rfl | (simp; done) | (simp [*]; done)), H', ⟨by have := HK1.out; first | omega | exact Nat.le_refl _⟩, ⟨by repeat (first | (with_reducible first | exact HB.out | apply below_alloc | apply pw_below_drewN | apply below_drew1) | exact HB.out)⟩⟩
            case rest =>
              clear HC12
              try clear c1
              try clear p2
              try clear c3
              try clear c5
              try clear c5b0
              try clear c5b1
              try clear c6
              try clear c6b0
              try clear c6b1
              try clear c9
              try clear c9b0
              try clear c10
              try clear c10b0
              try clear c10b1
              try clear c13
              try clear c13b0
              try clear c14
              try clear c14b0
              try clear c14b1
              try clear p2
              obtain ⟨kq, x61_11, rfl, HA, HJ11, HB⟩ := hcut
              cases kq with
              | zero => exact absurd HA.out (by simp [times_quoRem.j1])
              | succ kj11 =>
                have H := HA.out
                clear HA
                simp only [times_quoRem.j1] at H
                by_cases c15 : x61_11 = true
                · subst c15
                  have H1 : (if (sub64Hi (Go.bits .or .u64 (IntKind.u64.wrap (x11_1 * 2)) (Go.bits .and .u64 (ji11) 1)) a3 0) ≤ 1 then (if 0 ≤ x12_1 then (times_quoRem.l0 kj11 a1 a2 a3 (Go.bits .or .u64 x9_1 (shl .u64 1 x12_1)) (sub64Lo (Go.bits .or .u64 (IntKind.u64.wrap (x10_1 * 2)) (x11_1 / 9223372036854775808)) a2 (sub64Hi (Go.bits .or .u64 (IntKind.u64.wrap (x11_1 * 2)) (Go.bits .and .u64 (ji11) 1)) a3 0)) (sub64Lo (Go.bits .or .u64 (IntKind.u64.wrap (x11_1 * 2)) (Go.bits .and .u64 (ji11) 1)) a3 0) (wrap64 (x12_1 - 1))) else (none)) else (none)) = some (r1, r2, r3, r4) := by rw [if_pos rfl] at H; exact H
                  clear H
                  have H := H1
                  clear H1
                  by_cases c16 : (sub64Hi (Go.bits .or .u64 (IntKind.u64.wrap (x11_1 * 2)) (Go.bits .and .u64 (ji11) 1)) a3 0) ≤ 1
                  · rw [if_pos c16] at H
                    have c16b0 := eq_true c16
                    have c16b1 : decide ((sub64Hi (Go.bits .or .u64 (IntKind.u64.wrap (x11_1 * 2)) (Go.bits .and .u64 (ji11) 1)) a3 0) ≤ 1) = true := decide_eq_true c16
                    clear c16
                    by_cases c17 : 0 ≤ x12_1
                    · rw [if_pos c17] at H
                      have c17b0 := eq_true c17
                      have c17b1 : decide (0 ≤ x12_1) = true := decide_eq_true c17
                      clear c17
                      obtain ⟨ji18, hji18⟩ : ∃ j_ : Int, (shl .u64 1 x12_1) = j_ := ⟨_, rfl⟩
                      replace H : (times_quoRem.l0 kj11 a1 a2 a3 (Go.bits .or .u64 x9_1 (ji18)) (sub64Lo (Go.bits .or .u64 (IntKind.u64.wrap (x10_1 * 2)) (x11_1 / 9223372036854775808)) a2 (sub64Hi (Go.bits .or .u64 (IntKind.u64.wrap (x11_1 * 2)) (Go.bits .and .u64 (ji11) 1)) a3 0)) (sub64Lo (Go.bits .or .u64 (IntKind.u64.wrap (x11_1 * 2)) (Go.bits .and .u64 (ji11) 1)) a3 0) (wrap64 (x12_1 - 1))) = some (r1, r2, r3, r4) := by first | (rw [hji18] at H; exact H) | (simp only [hji18] at H ⊢; exact H)
                      have hji18_ : (IntKind.u64.wrap (1 * 2 ^ min x12_1.toNat 64)) = ji18 := hji18
                      have hji18z : x12_1 ≤ 64 → (IntKind.u64.wrap (1 * 2 ^ x12_1.toNat)) = ji18 := shl_small hji18
                      have hji18u : (IntKind.u64.wrap (2 ^ min x12_1.toNat 64)) = ji18 := by have h_ := hji18_; rw [Int.one_mul] at h_; exact h_
                      have hji18v : x12_1 ≤ 64 → (IntKind.u64.wrap (2 ^ x12_1.toNat)) = ji18 := fun hle_ => by have h_ := hji18z hle_; rw [Int.one_mul] at h_; exact h_
                      have H' := Aside0.mk H
                      clear H
                      go_wp2
                      repeat (go_quiet (fail); try go_wp2)
                      go_roundg kj11
                      case measure => have := HK1.out; have := HJ11.out; omega
                      case rel => exact ⟨(Go.bits .or .u64 x9_1 (ji18)), ((sub64Lo (Go.bits .or .u64 (IntKind.u64.wrap (x10_1 * 2)) (x11_1 / 9223372036854775808)) a2 (sub64Hi (Go.bits .or .u64 (IntKind.u64.wrap (x11_1 * 2)) (Go.bits .and .u64 (ji11) 1)) a3 0))), ((sub64Lo (Go.bits .or .u64 (IntKind.u64.wrap (x11_1 * 2)) (Go.bits .and .u64 (ji11) 1)) a3 0)), (wrap64 (x12_1 - 1)), (by first | rfl | (simp; done) | (simp only [← hji18] <;> (first | rfl | simp)) | (simp [*]; done)), (by first | rfl | (simp; done) | (simp only [← hji11] <;> (first | rfl | simp)) | (simp [*]; done)), (by first | rfl | (simp; done) | (simp only [← hji11] <;> (first | rfl | simp)) | (simp [*]; done)), (by first | rfl | (simp; done) | (simp [*]; done)), H', ⟨by have := HK1.out; have := HJ11.out; omega⟩, ⟨by repeat (first | (with_reducible first | exact HB.out | apply below_alloc | apply pw_below_drewN | apply below_drew1) | exact HB.out)⟩⟩
                    · rw [if_neg c17] at H
                      exact absurd H (by simp)
                  · rw [if_neg c16] at H
                    exact absurd H (by simp)
                · replace c15 := Bool.eq_false_iff.mpr c15
                  subst c15
                  have H1 : (times_quoRem.l0 kj11 a1 a2 a3 x9_1 (Go.bits .or .u64 (IntKind.u64.wrap (x10_1 * 2)) (x11_1 / 9223372036854775808)) (Go.bits .or .u64 (IntKind.u64.wrap (x11_1 * 2)) (Go.bits .and .u64 (ji11) 1)) (wrap64 (x12_1 - 1))) = some (r1, r2, r3, r4) := by rw [if_neg (show ¬ (false = true) by decide)] at H; exact H
                  clear H
                  have H := H1
                  clear H1
                  have H' := Aside0.mk H
                  clear H
                  go_wp2
                  repeat (go_quiet (fail); try go_wp2)
                  go_roundg kj11
                  case measure => have := HK1.out; have := HJ11.out; omega
                  case rel => exact ⟨(x9_1), ((Go.bits .or .u64 (IntKind.u64.wrap (x10_1 * 2)) (x11_1 / 9223372036854775808))), ((Go.bits .or .u64 (IntKind.u64.wrap (x11_1 * 2)) (Go.bits .and .u64 (ji11) 1))), (wrap64 (x12_1 - 1)), (by first | rfl | (simp; done) | (simp [*]; done)), (by first | rfl | (simp; done) | (simp [*]; done)), (by first | rfl | (simp; done) | (simp only [← hji11] <;> (first | rfl | simp)) | (simp [*]; done)), (by first | rfl | (simp; done) | (simp [*]; done)), H', ⟨by have := HK1.out; have := HJ11.out; omega⟩, ⟨by repeat (first | (with_reducible first | exact HB.out | apply below_alloc | apply pw_below_drewN | apply below_drew1) | exact HB.out)⟩⟩
          · rw [if_neg c10] at H
            exact absurd H (by simp)
        · rw [if_neg c9] at H
          have c9b0 : decide (0 ≤ x12_1) = false := decide_eq_false c9
          clear c9
          simp only [Option.some.injEq, Prod.mk.injEq] at H
          obtain ⟨rfl, rfl, rfl, rfl⟩ := H
          go_wp2
          repeat (go_quiet (fail); try go_wp2)
          refine bodyPost_ret (results_list (rs := [.tmp 8, .tmp 9, .tmp 10, .tmp 11]) rfl (by simp) (.tmp (.tmp (.tmp (.tmp .nil))))) rfl ?_
          exact ⟨by first | rfl | (simp [errW_none, errW_some] <;> rfl) | (simp [*, errW_none, errW_some] <;> rfl), by repeat (first | (with_reducible first | exact HB.out | apply below_alloc | apply pw_below_drewN | apply below_drew1) | exact HB.out)⟩

end Go.Proofs.Ytieeaicdpdidpaa.PTF
