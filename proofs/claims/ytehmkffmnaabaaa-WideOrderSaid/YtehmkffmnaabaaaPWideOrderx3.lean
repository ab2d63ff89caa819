-- Written by a program of this session (a changed scratch copy of the print tool): an own text, not the kit's print.
import Derived.Test.YtehmkffmnaabaaaPWideOrderx0
namespace Go.Proofs.Ytehmkffmnaabaaa.PWideOrder
open Go.RowKit Go.Proofs.YtehmkffmnaabaaaW.PrintWords Go.Proofs.YtehmkffmnaabaaaW.PrintLast Go.Proofs.YtehmkffmnaabaaaW.PrintMore
attribute [local go_sem] run_add64 run_sub64 max2_int min2_int max_two min_two max_three min_three max_four min_four   -- for this text's walks alone
set_option linter.unusedVariables false
set_option linter.unusedSimpArgs false
abbrev zA := @blk_drewN
abbrev zB := @blk_alloc
abbrev zC := @blk_drew
abbrev zD := @below_set
abbrev zE := @pw_below_drewN
abbrev zF := @below_drew1
abbrev zG := @below_alloc
abbrev zH := @blk_cell
abbrev zI := @below_step
abbrev zJ := @below_size
abbrev zK := @Aside0.mk
abbrev zL := @blk_below

attribute [local go_sem high] eqA54
/-! ### octroiref01_Cmp: function 26 -/
def octroiref01_Cmp.f (a0_0 : Int) (a0_1 : Int) (a1_0 : Int) (a1_1 : Int) : Option (Int) := (Ref01.Digits.f a0_0 a0_1).bind fun au => ((Ref01.Digits.f a1_0 a1_1).bind fun ar => ((Ref01.Turned.f ar.1 ar.2.1 ar.2.2.1 ar.2.2.2.1 ar.2.2.2.2.1 ar.2.2.2.2.2.1 ar.2.2.2.2.2.2.1 ar.2.2.2.2.2.2.2.1 ar.2.2.2.2.2.2.2.2.1 ar.2.2.2.2.2.2.2.2.2.1 ar.2.2.2.2.2.2.2.2.2.2.1 ar.2.2.2.2.2.2.2.2.2.2.2).bind fun aq => ((Ref01.Plus.f au.1 au.2.1 au.2.2.1 au.2.2.2.1 au.2.2.2.2.1 au.2.2.2.2.2.1 au.2.2.2.2.2.2.1 au.2.2.2.2.2.2.2.1 au.2.2.2.2.2.2.2.2.1 au.2.2.2.2.2.2.2.2.2.1 au.2.2.2.2.2.2.2.2.2.2.1 au.2.2.2.2.2.2.2.2.2.2.2 aq.1 aq.2.1 aq.2.2.1 aq.2.2.2.1 aq.2.2.2.2.1 aq.2.2.2.2.2.1 aq.2.2.2.2.2.2.1 aq.2.2.2.2.2.2.2.1 aq.2.2.2.2.2.2.2.2.1 aq.2.2.2.2.2.2.2.2.2.1 aq.2.2.2.2.2.2.2.2.2.2.1 aq.2.2.2.2.2.2.2.2.2.2.2).bind fun al => ((Ref01.IsBelow.f al.1 al.2.1 al.2.2.1 al.2.2.2.1 al.2.2.2.2.1 al.2.2.2.2.2.1 al.2.2.2.2.2.2.1 al.2.2.2.2.2.2.2.1 al.2.2.2.2.2.2.2.2.1 al.2.2.2.2.2.2.2.2.2.1 al.2.2.2.2.2.2.2.2.2.2.1 al.2.2.2.2.2.2.2.2.2.2.2).bind fun t206 => (if t206 = true then (some (-1)) else (if (al.1 == 0 && (al.2.1 == 0 && (al.2.2.1 == 0 && (al.2.2.2.1 == 0 && (al.2.2.2.2.1 == 0 && (al.2.2.2.2.2.1 == 0 && (al.2.2.2.2.2.2.1 == 0 && (al.2.2.2.2.2.2.2.1 == 0 && (al.2.2.2.2.2.2.2.2.1 == 0 && (al.2.2.2.2.2.2.2.2.2.1 == 0 && (al.2.2.2.2.2.2.2.2.2.2.1 == 0 && (al.2.2.2.2.2.2.2.2.2.2.2 == 0)))))))))))) = true then (some 0) else (some 1)))))))
def octroiref01_Cmp.T1 : Bool × List (List Nat × List Nat) := (true, [([], []), ([0], [0]), ([], []), ([2, 1], [2]), ([3, 3], [3]), ([1, 4, 4], [1, 4]), ([], []), ([6, 5, 5, 0, 1, 2, 3, 4, 5, 6], [5, 6])])
def octroiref01_Cmp.B1 : List Nat := [0, 1, 0, 7, 15, 31, 0, 127]
theorem octroiref01_Cmp.tab1 : rtab .any (opsOf Try.f26 1) = octroiref01_Cmp.T1 := by kernel_rfl
theorem octroiref01_Cmp.bits1 : waitsOk octroiref01_Cmp.T1.2 octroiref01_Cmp.B1 = true := by kernel_rfl
set_option maxHeartbeats 8000000 in
set_option maxRecDepth 100000 in
theorem octroiref01_Cmp.calls (a0_0 : Int) (a0_1 : Int) (a1_0 : Int) (a1_1 : Int) (r : Int) (w : World) (h : octroiref01_Cmp.f a0_0 a0_1 a1_0 a1_1 = some r) :
    Calls Try.prog 26 #[.agg #[.int .i64 a0_0, .int .u64 a0_1], .agg #[.int .i64 a1_0, .int .u64 a1_1]] w fun e w' => e = .returned (.int .i64 r) ∧ Below w.heap.size w w' := by
  have hu26 := Try.underlying26
  have hu54 := Try.underlying54
  have HB := zK (Below.refl w.heap.size w)
  have H : ((Ref01.Digits.f a0_0 a0_1).bind fun au => ((Ref01.Digits.f a1_0 a1_1).bind fun ar => ((Ref01.Turned.f ar.1 ar.2.1 ar.2.2.1 ar.2.2.2.1 ar.2.2.2.2.1 ar.2.2.2.2.2.1 ar.2.2.2.2.2.2.1 ar.2.2.2.2.2.2.2.1 ar.2.2.2.2.2.2.2.2.1 ar.2.2.2.2.2.2.2.2.2.1 ar.2.2.2.2.2.2.2.2.2.2.1 ar.2.2.2.2.2.2.2.2.2.2.2).bind fun aq => ((Ref01.Plus.f au.1 au.2.1 au.2.2.1 au.2.2.2.1 au.2.2.2.2.1 au.2.2.2.2.2.1 au.2.2.2.2.2.2.1 au.2.2.2.2.2.2.2.1 au.2.2.2.2.2.2.2.2.1 au.2.2.2.2.2.2.2.2.2.1 au.2.2.2.2.2.2.2.2.2.2.1 au.2.2.2.2.2.2.2.2.2.2.2 aq.1 aq.2.1 aq.2.2.1 aq.2.2.2.1 aq.2.2.2.2.1 aq.2.2.2.2.2.1 aq.2.2.2.2.2.2.1 aq.2.2.2.2.2.2.2.1 aq.2.2.2.2.2.2.2.2.1 aq.2.2.2.2.2.2.2.2.2.1 aq.2.2.2.2.2.2.2.2.2.2.1 aq.2.2.2.2.2.2.2.2.2.2.2).bind fun al => ((Ref01.IsBelow.f al.1 al.2.1 al.2.2.1 al.2.2.2.1 al.2.2.2.2.1 al.2.2.2.2.2.1 al.2.2.2.2.2.2.1 al.2.2.2.2.2.2.2.1 al.2.2.2.2.2.2.2.2.1 al.2.2.2.2.2.2.2.2.2.1 al.2.2.2.2.2.2.2.2.2.2.1 al.2.2.2.2.2.2.2.2.2.2.2).bind fun t206 => (if t206 = true then (some (-1)) else (if (al.1 == 0 && (al.2.1 == 0 && (al.2.2.1 == 0 && (al.2.2.2.1 == 0 && (al.2.2.2.2.1 == 0 && (al.2.2.2.2.2.1 == 0 && (al.2.2.2.2.2.2.1 == 0 && (al.2.2.2.2.2.2.2.1 == 0 && (al.2.2.2.2.2.2.2.2.1 == 0 && (al.2.2.2.2.2.2.2.2.2.1 == 0 && (al.2.2.2.2.2.2.2.2.2.2.1 == 0 && (al.2.2.2.2.2.2.2.2.2.2.2 == 0)))))))))))) = true then (some 0) else (some 1)))))))) = some r := h
  clear h
  replace H := Option.bind_eq_some_iff.mp H
  obtain ⟨⟨t157, t158, t159, t160, t161, t162, t163, t164, t165, t166, t167, t168⟩, A30, H⟩ := H
  replace H : ((Ref01.Digits.f a1_0 a1_1).bind fun ar => ((Ref01.Turned.f ar.1 ar.2.1 ar.2.2.1 ar.2.2.2.1 ar.2.2.2.2.1 ar.2.2.2.2.2.1 ar.2.2.2.2.2.2.1 ar.2.2.2.2.2.2.2.1 ar.2.2.2.2.2.2.2.2.1 ar.2.2.2.2.2.2.2.2.2.1 ar.2.2.2.2.2.2.2.2.2.2.1 ar.2.2.2.2.2.2.2.2.2.2.2).bind fun aq => ((Ref01.Plus.f t157 t158 t159 t160 t161 t162 t163 t164 t165 t166 t167 t168 aq.1 aq.2.1 aq.2.2.1 aq.2.2.2.1 aq.2.2.2.2.1 aq.2.2.2.2.2.1 aq.2.2.2.2.2.2.1 aq.2.2.2.2.2.2.2.1 aq.2.2.2.2.2.2.2.2.1 aq.2.2.2.2.2.2.2.2.2.1 aq.2.2.2.2.2.2.2.2.2.2.1 aq.2.2.2.2.2.2.2.2.2.2.2).bind fun al => ((Ref01.IsBelow.f al.1 al.2.1 al.2.2.1 al.2.2.2.1 al.2.2.2.2.1 al.2.2.2.2.2.1 al.2.2.2.2.2.2.1 al.2.2.2.2.2.2.2.1 al.2.2.2.2.2.2.2.2.1 al.2.2.2.2.2.2.2.2.2.1 al.2.2.2.2.2.2.2.2.2.2.1 al.2.2.2.2.2.2.2.2.2.2.2).bind fun t206 => (if t206 = true then (some (-1)) else (if (al.1 == 0 && (al.2.1 == 0 && (al.2.2.1 == 0 && (al.2.2.2.1 == 0 && (al.2.2.2.2.1 == 0 && (al.2.2.2.2.2.1 == 0 && (al.2.2.2.2.2.2.1 == 0 && (al.2.2.2.2.2.2.2.1 == 0 && (al.2.2.2.2.2.2.2.2.1 == 0 && (al.2.2.2.2.2.2.2.2.2.1 == 0 && (al.2.2.2.2.2.2.2.2.2.2.1 == 0 && (al.2.2.2.2.2.2.2.2.2.2.2 == 0)))))))))))) = true then (some 0) else (some 1))))))) = some r := H
  have A3 := zK A30
  clear A30
  replace H := Option.bind_eq_some_iff.mp H
  obtain ⟨⟨t169, t170, t171, t172, t173, t174, t175, t176, t177, t178, t179, t180⟩, A40, H⟩ := H
  replace H : ((Ref01.Turned.f t169 t170 t171 t172 t173 t174 t175 t176 t177 t178 t179 t180).bind fun aq => ((Ref01.Plus.f t157 t158 t159 t160 t161 t162 t163 t164 t165 t166 t167 t168 aq.1 aq.2.1 aq.2.2.1 aq.2.2.2.1 aq.2.2.2.2.1 aq.2.2.2.2.2.1 aq.2.2.2.2.2.2.1 aq.2.2.2.2.2.2.2.1 aq.2.2.2.2.2.2.2.2.1 aq.2.2.2.2.2.2.2.2.2.1 aq.2.2.2.2.2.2.2.2.2.2.1 aq.2.2.2.2.2.2.2.2.2.2.2).bind fun al => ((Ref01.IsBelow.f al.1 al.2.1 al.2.2.1 al.2.2.2.1 al.2.2.2.2.1 al.2.2.2.2.2.1 al.2.2.2.2.2.2.1 al.2.2.2.2.2.2.2.1 al.2.2.2.2.2.2.2.2.1 al.2.2.2.2.2.2.2.2.2.1 al.2.2.2.2.2.2.2.2.2.2.1 al.2.2.2.2.2.2.2.2.2.2.2).bind fun t206 => (if t206 = true then (some (-1)) else (if (al.1 == 0 && (al.2.1 == 0 && (al.2.2.1 == 0 && (al.2.2.2.1 == 0 && (al.2.2.2.2.1 == 0 && (al.2.2.2.2.2.1 == 0 && (al.2.2.2.2.2.2.1 == 0 && (al.2.2.2.2.2.2.2.1 == 0 && (al.2.2.2.2.2.2.2.2.1 == 0 && (al.2.2.2.2.2.2.2.2.2.1 == 0 && (al.2.2.2.2.2.2.2.2.2.2.1 == 0 && (al.2.2.2.2.2.2.2.2.2.2.2 == 0)))))))))))) = true then (some 0) else (some 1)))))) = some r := H
  have A4 := zK A40
  clear A40
  replace H := Option.bind_eq_some_iff.mp H
  obtain ⟨⟨t181, t182, t183, t184, t185, t186, t187, t188, t189, t190, t191, t192⟩, A50, H⟩ := H
  replace H : ((Ref01.Plus.f t157 t158 t159 t160 t161 t162 t163 t164 t165 t166 t167 t168 t181 t182 t183 t184 t185 t186 t187 t188 t189 t190 t191 t192).bind fun al => ((Ref01.IsBelow.f al.1 al.2.1 al.2.2.1 al.2.2.2.1 al.2.2.2.2.1 al.2.2.2.2.2.1 al.2.2.2.2.2.2.1 al.2.2.2.2.2.2.2.1 al.2.2.2.2.2.2.2.2.1 al.2.2.2.2.2.2.2.2.2.1 al.2.2.2.2.2.2.2.2.2.2.1 al.2.2.2.2.2.2.2.2.2.2.2).bind fun t206 => (if t206 = true then (some (-1)) else (if (al.1 == 0 && (al.2.1 == 0 && (al.2.2.1 == 0 && (al.2.2.2.1 == 0 && (al.2.2.2.2.1 == 0 && (al.2.2.2.2.2.1 == 0 && (al.2.2.2.2.2.2.1 == 0 && (al.2.2.2.2.2.2.2.1 == 0 && (al.2.2.2.2.2.2.2.2.1 == 0 && (al.2.2.2.2.2.2.2.2.2.1 == 0 && (al.2.2.2.2.2.2.2.2.2.2.1 == 0 && (al.2.2.2.2.2.2.2.2.2.2.2 == 0)))))))))))) = true then (some 0) else (some 1))))) = some r := H
  have A5 := zK A50
  clear A50
  replace H := Option.bind_eq_some_iff.mp H
  obtain ⟨⟨t193, t194, t195, t196, t197, t198, t199, t200, t201, t202, t203, t204⟩, A60, H⟩ := H
  replace H : ((Ref01.IsBelow.f t193 t194 t195 t196 t197 t198 t199 t200 t201 t202 t203 t204).bind fun t206 => (if t206 = true then (some (-1)) else (if (t193 == 0 && (t194 == 0 && (t195 == 0 && (t196 == 0 && (t197 == 0 && (t198 == 0 && (t199 == 0 && (t200 == 0 && (t201 == 0 && (t202 == 0 && (t203 == 0 && (t204 == 0)))))))))))) = true then (some 0) else (some 1)))) = some r := H
  have A6 := zK A60
  clear A60
  replace H := Option.bind_eq_some_iff.mp H
  obtain ⟨t206, A70, H⟩ := H
  replace H : (if t206 = true then (some (-1)) else (if (t193 == 0 && (t194 == 0 && (t195 == 0 && (t196 == 0 && (t197 == 0 && (t198 == 0 && (t199 == 0 && (t200 == 0 && (t201 == 0 && (t202 == 0 && (t203 == 0 && (t204 == 0)))))))))))) = true then (some 0) else (some 1))) = some r := H
  have A7 := zK A70
  clear A70
  by_cases c8 : t206 = true
  · subst c8
    have H1 : (some (-1)) = some r := by rw [if_pos rfl] at H; exact H
    clear H
    have H := H1
    clear H1
    obtain rfl := Option.some.inj H
    go_enter Try.func26, Try.ntmps26
    try go_wp2_with (first | ((with_reducible refine gate_dst (N := 2) rfl ?_); refine box_event ?hg (N := 2) ?hd (cs := #[.int .i64 a0_0, .int .u64 a0_1]) (t := 26) ?hr ?_; (case hd => rfl); (case hg => rfl); (case hr => first | (go_simp; done) | (go_simp; rfl)); intro ae hg w9 hbox hb; have n0_ := zK (zI (by repeat (first | (with_reducible first | exact HB.out | apply zG | apply zE | apply zF) | exact HB.out)) hb); have n1_ := zK (hbox); have n2_ := zK ((by rw [hg]; exact (zJ (by repeat (first | (with_reducible first | exact HB.out | apply zG | apply zE | apply zF) | exact HB.out))) : w.heap.size ≤ ae)); have n3_ := zK ((by rw [hg]; exact (zJ (by repeat (first | (with_reducible first | exact HB.out | apply zG | apply zE | apply zF) | exact HB.out))) : w.heap.size ≤ ae)); clear HB; have HB := n0_; have ad := n1_; have a7 := n2_; have ak := n3_; clear n0_ n1_ n2_ n3_; clear hb hbox hg) | ((with_reducible refine gate_dst (N := 3) rfl ?_); refine box_event ?hg (N := 3) ?hd (cs := #[.int .i64 a1_0, .int .u64 a1_1]) (t := 26) ?hr ?_; (case hd => rfl); (case hg => rfl); (case hr => first | (go_simp; done) | (go_simp; rfl)); intro ag hg w10 hbox hb; have n0_ := zK (zL (g := ae) (o := .cells #[.int .i64 a0_0, .int .u64 a0_1] 26 (0, 0)) (by (with_reducible repeat (first | refine zA ?_ _ | refine zC ?_ | refine zB ?_ _)); exact ad.out) hb); have n1_ := zK (zI (by repeat (first | (with_reducible first | exact HB.out | apply zG | apply zE | apply zF | refine zD ?_ ak.out) | exact HB.out)) hb); have n2_ := zK (hbox); have n3_ := zK ((by rw [hg]; exact (zJ (by repeat (first | (with_reducible first | exact HB.out | apply zG | apply zE | apply zF | refine zD ?_ ak.out) | exact HB.out))) : w.heap.size ≤ ag)); have n4_ := zK ((by rw [hg]; exact (zJ (by repeat (first | (with_reducible first | exact HB.out | apply zG | apply zE | apply zF | refine zD ?_ ak.out) | exact HB.out))) : w.heap.size ≤ ag)); have n5_ := zK ((by rw [hg]; exact Nat.ne_of_lt (blk_lt (g := ae) (o := .cells #[.int .i64 a0_0, .int .u64 a0_1] 26 (0, 0)) (by (with_reducible repeat (first | refine zA ?_ _ | refine zC ?_ | refine zB ?_ _)); exact ad.out)) : ae ≠ ag)); have n6_ := zK ((by rw [hg]; exact Nat.ne_of_gt (blk_lt (g := ae) (o := .cells #[.int .i64 a0_0, .int .u64 a0_1] 26 (0, 0)) (by (with_reducible repeat (first | refine zA ?_ _ | refine zC ?_ | refine zB ?_ _)); exact ad.out)) : ag ≠ ae)); clear ad; clear HB; have ad := n0_; have HB := n1_; have af := n2_; have a8 := n3_; have am := n4_; have aw := n5_; have av := n6_; clear n0_ n1_ n2_ n3_ n4_ n5_ n6_; clear hb hbox hg))
    have n0_ := zK (zC ad.out)
    have n1_ := zK (zC af.out)
    have n2_ := zK (zF HB.out)
    clear ad
    clear af
    clear HB
    have ad := n0_
    have af := n1_
    have HB := n2_
    clear n0_ n1_ n2_
    refine start_ (n := 8) (S := fun w' => w'.cell? ⟨ae, 0, none⟩ = some (.int .i64 a0_0) ∧ w'.cell? ⟨ae, 1, none⟩ = some (.int .u64 a0_1) ∧ w'.cell? ⟨ag, 0, none⟩ = some (.int .i64 a1_0) ∧ w'.cell? ⟨ag, 1, none⟩ = some (.int .u64 a1_1)) (ds := []) #[false, false, false, false, false, false, false, false] (by kernel_rfl) rfl rfl ⟨(zH ad.out 0).trans rfl, (zH ad.out 1).trans rfl, (zH af.out 0).trans rfl, (zH af.out 1).trans rfl⟩ (fun hHeld => ?_); refine with_tabW octroiref01_Cmp.tab1 octroiref01_Cmp.bits1 (fun HT_ HW_ => ?_)
    generalize w10.drew = w11 at ad af HB hHeld ⊢
    refine take_ (i := 0) (N := some 6) (v := ?_) (a' := ?_) #[true, false, false, false, false, false, false, false] rfl rfl (take_ofW HT_.out HW_.out (by kernel_rfl)) (fun _ _ _ h => h) (Or.inl ⟨by rfl, ?_⟩) hHeld ?_ ?_
    rotate_left
    · rintro w' ⟨s0, s1, s2, s3⟩
      go_simp
      with_reducible rfl
    rotate_left
    · simp only [Act.put, List.setIfInBounds_toArray, List.set_cons_zero, List.set_cons_succ, i64_w, i32_w]
      rfl
    refine take_ (i := 2) (N := some 8) (v := ?_) (a' := ?_) #[true, false, true, false, false, false, false, false] rfl rfl (take_ofW HT_.out HW_.out (by kernel_rfl)) (fun _ _ _ h => h) (Or.inl ⟨by rfl, ?_⟩) hHeld ?_ ?_
    rotate_left
    · rintro w' ⟨s0, s1, s2, s3⟩
      go_simp
      with_reducible rfl
    rotate_left
    · simp only [Act.put, List.setIfInBounds_toArray, List.set_cons_zero, List.set_cons_succ, i64_w, i32_w]
      rfl
    refine join_ (σ := Nat) 1 #[true, true, true, true, true, true, true, false] (fun s_ => [(7, .agg #[.int .u64 t157, .int .u64 t158, .int .u64 t159, .int .u64 t160, .int .u64 t161, .int .u64 t162, .int .u64 t163, .int .u64 t164, .int .u64 t165, .int .u64 t166, .int .u64 t167, .int .u64 t168]), (9, .agg #[.int .u64 t169, .int .u64 t170, .int .u64 t171, .int .u64 t172, .int .u64 t173, .int .u64 t174, .int .u64 t175, .int .u64 t176, .int .u64 t177, .int .u64 t178, .int .u64 t179, .int .u64 t180]), (10, .agg #[.int .u64 t181, .int .u64 t182, .int .u64 t183, .int .u64 t184, .int .u64 t185, .int .u64 t186, .int .u64 t187, .int .u64 t188, .int .u64 t189, .int .u64 t190, .int .u64 t191, .int .u64 t192]), (11, .agg #[.int .u64 t193, .int .u64 t194, .int .u64 t195, .int .u64 t196, .int .u64 t197, .int .u64 t198, .int .u64 t199, .int .u64 t200, .int .u64 t201, .int .u64 t202, .int .u64 t203, .int .u64 t204]), (5, .pointer (some ⟨s_, 0, none⟩))]) (fun s_ w' => (w'.cell? ⟨ae, 0, none⟩ = some (.int .i64 a0_0) ∧ w'.cell? ⟨ae, 1, none⟩ = some (.int .u64 a0_1) ∧ w'.cell? ⟨ag, 0, none⟩ = some (.int .i64 a1_0) ∧ w'.cell? ⟨ag, 1, none⟩ = some (.int .u64 a1_1)) ∧ (w'.heap[ae]? = some (.cells #[.int .i64 a0_0, .int .u64 a0_1] 26 (0, 0))) ∧ (w'.heap[ag]? = some (.cells #[.int .i64 a1_0, .int .u64 a1_1] 26 (0, 0))) ∧ (w'.heap[s_]? = some (.cells #[.int .u64 0, .int .u64 0, .int .u64 0, .int .u64 0, .int .u64 0, .int .u64 0, .int .u64 0, .int .u64 0, .int .u64 0, .int .u64 0, .int .u64 0, .int .u64 0] 54 (0, 0))) ∧ (w.heap.size ≤ s_) ∧ (w.heap.size ≤ s_) ∧ (ae ≠ s_) ∧ (s_ ≠ ae) ∧ (ag ≠ s_) ∧ (s_ ≠ ag) ∧ (Below w.heap.size w w')) ?_ ?_
    rotate_left
    · intro hJ1_3_4_5_6
      refine join_ (σ := Unit) 2 #[true, true, true, true, true, true, false, false] (fun s_ => [(7, .agg #[.int .u64 t157, .int .u64 t158, .int .u64 t159, .int .u64 t160, .int .u64 t161, .int .u64 t162, .int .u64 t163, .int .u64 t164, .int .u64 t165, .int .u64 t166, .int .u64 t167, .int .u64 t168]), (9, .agg #[.int .u64 t169, .int .u64 t170, .int .u64 t171, .int .u64 t172, .int .u64 t173, .int .u64 t174, .int .u64 t175, .int .u64 t176, .int .u64 t177, .int .u64 t178, .int .u64 t179, .int .u64 t180]), (10, .agg #[.int .u64 t181, .int .u64 t182, .int .u64 t183, .int .u64 t184, .int .u64 t185, .int .u64 t186, .int .u64 t187, .int .u64 t188, .int .u64 t189, .int .u64 t190, .int .u64 t191, .int .u64 t192]), (11, .agg #[.int .u64 t193, .int .u64 t194, .int .u64 t195, .int .u64 t196, .int .u64 t197, .int .u64 t198, .int .u64 t199, .int .u64 t200, .int .u64 t201, .int .u64 t202, .int .u64 t203, .int .u64 t204])]) (fun s_ w' => (w'.cell? ⟨ae, 0, none⟩ = some (.int .i64 a0_0) ∧ w'.cell? ⟨ae, 1, none⟩ = some (.int .u64 a0_1) ∧ w'.cell? ⟨ag, 0, none⟩ = some (.int .i64 a1_0) ∧ w'.cell? ⟨ag, 1, none⟩ = some (.int .u64 a1_1)) ∧ (w'.heap[ae]? = some (.cells #[.int .i64 a0_0, .int .u64 a0_1] 26 (0, 0))) ∧ (w'.heap[ag]? = some (.cells #[.int .i64 a1_0, .int .u64 a1_1] 26 (0, 0))) ∧ (Below w.heap.size w w')) ?_ ?_
      rotate_left
      · intro hJ1_3_4_5
        refine join_ (σ := Nat) 2 #[true, true, true, true, true, false, true, false] (fun s_ => [(7, .agg #[.int .u64 t157, .int .u64 t158, .int .u64 t159, .int .u64 t160, .int .u64 t161, .int .u64 t162, .int .u64 t163, .int .u64 t164, .int .u64 t165, .int .u64 t166, .int .u64 t167, .int .u64 t168]), (9, .agg #[.int .u64 t169, .int .u64 t170, .int .u64 t171, .int .u64 t172, .int .u64 t173, .int .u64 t174, .int .u64 t175, .int .u64 t176, .int .u64 t177, .int .u64 t178, .int .u64 t179, .int .u64 t180]), (10, .agg #[.int .u64 t181, .int .u64 t182, .int .u64 t183, .int .u64 t184, .int .u64 t185, .int .u64 t186, .int .u64 t187, .int .u64 t188, .int .u64 t189, .int .u64 t190, .int .u64 t191, .int .u64 t192]), (5, .pointer (some ⟨s_, 0, none⟩))]) (fun s_ w' => (w'.cell? ⟨ae, 0, none⟩ = some (.int .i64 a0_0) ∧ w'.cell? ⟨ae, 1, none⟩ = some (.int .u64 a0_1) ∧ w'.cell? ⟨ag, 0, none⟩ = some (.int .i64 a1_0) ∧ w'.cell? ⟨ag, 1, none⟩ = some (.int .u64 a1_1)) ∧ (w'.heap[ae]? = some (.cells #[.int .i64 a0_0, .int .u64 a0_1] 26 (0, 0))) ∧ (w'.heap[ag]? = some (.cells #[.int .i64 a1_0, .int .u64 a1_1] 26 (0, 0))) ∧ (w'.heap[s_]? = some (.cells #[.int .u64 0, .int .u64 0, .int .u64 0, .int .u64 0, .int .u64 0, .int .u64 0, .int .u64 0, .int .u64 0, .int .u64 0, .int .u64 0, .int .u64 0, .int .u64 0] 54 (0, 0))) ∧ (w.heap.size ≤ s_) ∧ (w.heap.size ≤ s_) ∧ (ae ≠ s_) ∧ (s_ ≠ ae) ∧ (ag ≠ s_) ∧ (s_ ≠ ag) ∧ (Below w.heap.size w w')) ?_ ?_
        rotate_left
        · intro hJ1_3_4_6
          refine join_ (σ := Unit) 3 #[true, true, true, true, true, false, false, false] (fun s_ => [(7, .agg #[.int .u64 t157, .int .u64 t158, .int .u64 t159, .int .u64 t160, .int .u64 t161, .int .u64 t162, .int .u64 t163, .int .u64 t164, .int .u64 t165, .int .u64 t166, .int .u64 t167, .int .u64 t168]), (9, .agg #[.int .u64 t169, .int .u64 t170, .int .u64 t171, .int .u64 t172, .int .u64 t173, .int .u64 t174, .int .u64 t175, .int .u64 t176, .int .u64 t177, .int .u64 t178, .int .u64 t179, .int .u64 t180]), (10, .agg #[.int .u64 t181, .int .u64 t182, .int .u64 t183, .int .u64 t184, .int .u64 t185, .int .u64 t186, .int .u64 t187, .int .u64 t188, .int .u64 t189, .int .u64 t190, .int .u64 t191, .int .u64 t192])]) (fun s_ w' => (w'.cell? ⟨ae, 0, none⟩ = some (.int .i64 a0_0) ∧ w'.cell? ⟨ae, 1, none⟩ = some (.int .u64 a0_1) ∧ w'.cell? ⟨ag, 0, none⟩ = some (.int .i64 a1_0) ∧ w'.cell? ⟨ag, 1, none⟩ = some (.int .u64 a1_1)) ∧ (w'.heap[ae]? = some (.cells #[.int .i64 a0_0, .int .u64 a0_1] 26 (0, 0))) ∧ (w'.heap[ag]? = some (.cells #[.int .i64 a1_0, .int .u64 a1_1] 26 (0, 0))) ∧ (Below w.heap.size w w')) ?_ ?_
          rotate_left
          · intro hJ1_3_4
            refine join_ (σ := Nat) 3 #[true, true, true, true, false, false, true, false] (fun s_ => [(7, .agg #[.int .u64 t157, .int .u64 t158, .int .u64 t159, .int .u64 t160, .int .u64 t161, .int .u64 t162, .int .u64 t163, .int .u64 t164, .int .u64 t165, .int .u64 t166, .int .u64 t167, .int .u64 t168]), (9, .agg #[.int .u64 t169, .int .u64 t170, .int .u64 t171, .int .u64 t172, .int .u64 t173, .int .u64 t174, .int .u64 t175, .int .u64 t176, .int .u64 t177, .int .u64 t178, .int .u64 t179, .int .u64 t180]), (5, .pointer (some ⟨s_, 0, none⟩))]) (fun s_ w' => (w'.cell? ⟨ae, 0, none⟩ = some (.int .i64 a0_0) ∧ w'.cell? ⟨ae, 1, none⟩ = some (.int .u64 a0_1) ∧ w'.cell? ⟨ag, 0, none⟩ = some (.int .i64 a1_0) ∧ w'.cell? ⟨ag, 1, none⟩ = some (.int .u64 a1_1)) ∧ (w'.heap[ae]? = some (.cells #[.int .i64 a0_0, .int .u64 a0_1] 26 (0, 0))) ∧ (w'.heap[ag]? = some (.cells #[.int .i64 a1_0, .int .u64 a1_1] 26 (0, 0))) ∧ (w'.heap[s_]? = some (.cells #[.int .u64 0, .int .u64 0, .int .u64 0, .int .u64 0, .int .u64 0, .int .u64 0, .int .u64 0, .int .u64 0, .int .u64 0, .int .u64 0, .int .u64 0, .int .u64 0] 54 (0, 0))) ∧ (w.heap.size ≤ s_) ∧ (w.heap.size ≤ s_) ∧ (ae ≠ s_) ∧ (s_ ≠ ae) ∧ (ag ≠ s_) ∧ (s_ ≠ ag) ∧ (Below w.heap.size w w')) ?_ ?_
            rotate_left
            · intro hJ1_3_6
              refine join_ (σ := Unit) 4 #[true, true, true, true, false, false, false, false] (fun s_ => [(7, .agg #[.int .u64 t157, .int .u64 t158, .int .u64 t159, .int .u64 t160, .int .u64 t161, .int .u64 t162, .int .u64 t163, .int .u64 t164, .int .u64 t165, .int .u64 t166, .int .u64 t167, .int .u64 t168]), (9, .agg #[.int .u64 t169, .int .u64 t170, .int .u64 t171, .int .u64 t172, .int .u64 t173, .int .u64 t174, .int .u64 t175, .int .u64 t176, .int .u64 t177, .int .u64 t178, .int .u64 t179, .int .u64 t180])]) (fun s_ w' => (w'.cell? ⟨ae, 0, none⟩ = some (.int .i64 a0_0) ∧ w'.cell? ⟨ae, 1, none⟩ = some (.int .u64 a0_1) ∧ w'.cell? ⟨ag, 0, none⟩ = some (.int .i64 a1_0) ∧ w'.cell? ⟨ag, 1, none⟩ = some (.int .u64 a1_1)) ∧ (w'.heap[ae]? = some (.cells #[.int .i64 a0_0, .int .u64 a0_1] 26 (0, 0))) ∧ (w'.heap[ag]? = some (.cells #[.int .i64 a1_0, .int .u64 a1_1] 26 (0, 0))) ∧ (Below w.heap.size w w')) ?_ ?_
              rotate_left
              · intro hJ1_3
                refine join_ (σ := Nat) 4 #[true, true, true, false, false, false, true, false] (fun s_ => [(7, .agg #[.int .u64 t157, .int .u64 t158, .int .u64 t159, .int .u64 t160, .int .u64 t161, .int .u64 t162, .int .u64 t163, .int .u64 t164, .int .u64 t165, .int .u64 t166, .int .u64 t167, .int .u64 t168]), (5, .pointer (some ⟨s_, 0, none⟩))]) (fun s_ w' => (w'.cell? ⟨ae, 0, none⟩ = some (.int .i64 a0_0) ∧ w'.cell? ⟨ae, 1, none⟩ = some (.int .u64 a0_1) ∧ w'.cell? ⟨ag, 0, none⟩ = some (.int .i64 a1_0) ∧ w'.cell? ⟨ag, 1, none⟩ = some (.int .u64 a1_1)) ∧ (w'.heap[ae]? = some (.cells #[.int .i64 a0_0, .int .u64 a0_1] 26 (0, 0))) ∧ (w'.heap[ag]? = some (.cells #[.int .i64 a1_0, .int .u64 a1_1] 26 (0, 0))) ∧ (w'.heap[s_]? = some (.cells #[.int .u64 0, .int .u64 0, .int .u64 0, .int .u64 0, .int .u64 0, .int .u64 0, .int .u64 0, .int .u64 0, .int .u64 0, .int .u64 0, .int .u64 0, .int .u64 0] 54 (0, 0))) ∧ (w.heap.size ≤ s_) ∧ (w.heap.size ≤ s_) ∧ (ae ≠ s_) ∧ (s_ ≠ ae) ∧ (ag ≠ s_) ∧ (s_ ≠ ag) ∧ (Below w.heap.size w w')) ?_ ?_
                rotate_left
                · intro hJ1_6
                  refine join_ (σ := Unit) 5 #[true, true, true, false, false, false, false, false] (fun s_ => [(7, .agg #[.int .u64 t157, .int .u64 t158, .int .u64 t159, .int .u64 t160, .int .u64 t161, .int .u64 t162, .int .u64 t163, .int .u64 t164, .int .u64 t165, .int .u64 t166, .int .u64 t167, .int .u64 t168])]) (fun s_ w' => (w'.cell? ⟨ae, 0, none⟩ = some (.int .i64 a0_0) ∧ w'.cell? ⟨ae, 1, none⟩ = some (.int .u64 a0_1) ∧ w'.cell? ⟨ag, 0, none⟩ = some (.int .i64 a1_0) ∧ w'.cell? ⟨ag, 1, none⟩ = some (.int .u64 a1_1)) ∧ (w'.heap[ae]? = some (.cells #[.int .i64 a0_0, .int .u64 a0_1] 26 (0, 0))) ∧ (w'.heap[ag]? = some (.cells #[.int .i64 a1_0, .int .u64 a1_1] 26 (0, 0))) ∧ (Below w.heap.size w w')) ?_ ?_
                  rotate_left
                  · intro hJ1
                    refine join_ (σ := Nat) 5 #[true, false, true, false, false, false, true, false] (fun s_ => [(5, .pointer (some ⟨s_, 0, none⟩))]) (fun s_ w' => (w'.cell? ⟨ae, 0, none⟩ = some (.int .i64 a0_0) ∧ w'.cell? ⟨ae, 1, none⟩ = some (.int .u64 a0_1) ∧ w'.cell? ⟨ag, 0, none⟩ = some (.int .i64 a1_0) ∧ w'.cell? ⟨ag, 1, none⟩ = some (.int .u64 a1_1)) ∧ (w'.heap[ae]? = some (.cells #[.int .i64 a0_0, .int .u64 a0_1] 26 (0, 0))) ∧ (w'.heap[ag]? = some (.cells #[.int .i64 a1_0, .int .u64 a1_1] 26 (0, 0))) ∧ (w'.heap[s_]? = some (.cells #[.int .u64 0, .int .u64 0, .int .u64 0, .int .u64 0, .int .u64 0, .int .u64 0, .int .u64 0, .int .u64 0, .int .u64 0, .int .u64 0, .int .u64 0, .int .u64 0] 54 (0, 0))) ∧ (w.heap.size ≤ s_) ∧ (w.heap.size ≤ s_) ∧ (ae ≠ s_) ∧ (s_ ≠ ae) ∧ (ag ≠ s_) ∧ (s_ ≠ ag) ∧ (Below w.heap.size w w')) ?_ ?_
                    rotate_left
                    · intro hJ6
                      refine two_ (i := 1) (j := 6) (Ni := some 7) (Nj := some 5) #[true, true, true, false, false, false, false, false] #[true, false, true, false, false, false, true, false] rfl rfl rfl rfl (two_of HT_.out (by kernel_rfl)) (by decide) (by decide) (fun K hK => ?_) (fun K hK => ?_)
                      · skip
                        refine goes_ Try.func36 (by kernel_rfl) rfl #[.agg #[.int .i64 a0_0, .int .u64 a0_1]] (by rfl) rfl rfl (by (try simp only [List.map_toArray, List.map_cons, List.map_nil]); first | done | rfl | (simp only [List.length_drop, List.length_take]; rfl)) ?_
                        with_reducible refine (Ref01.Digits.calls a0_0 a0_1 t157 t158 t159 t160 t161 t162 t163 t164 t165 t166 t167 t168 _ A3.out).mono ?_
                        rintro e w12 ⟨rfl, hb⟩
                        refine ⟨_, rfl, ?_⟩
                        have n0_ := zK (zL (g := ae) (o := .cells #[.int .i64 a0_0, .int .u64 a0_1] 26 (0, 0)) (by (with_reducible repeat (first | refine zA ?_ _ | refine zC ?_ | refine zB ?_ _)); exact ad.out) hb)
                        have n1_ := zK (zL (g := ag) (o := .cells #[.int .i64 a1_0, .int .u64 a1_1] 26 (0, 0)) (by (with_reducible repeat (first | refine zA ?_ _ | refine zC ?_ | refine zB ?_ _)); exact af.out) hb)
                        have n2_ := zK (zI (by repeat (first | (with_reducible first | exact HB.out | apply zG | apply zE | apply zF | refine zD ?_ ak.out | refine zD ?_ am.out) | exact HB.out)) hb)
                        clear ad
                        clear af
                        clear HB
                        have ad := n0_
                        have af := n1_
                        have HB := n2_
                        clear n0_ n1_ n2_
                        (try clear hb)
                        (try clear hb2)
                        (try clear hk)
                        (try clear hi)
                        refine hK.out _ _ ⟨(zH ad.out 0).trans rfl, (zH ad.out 1).trans rfl, (zH af.out 0).trans rfl, (zH af.out 1).trans rfl⟩ (fun hHeld => ?_)
                        clear hK K
                        refine norm_ (a' := ?_) ?_ ?_
                        rotate_left
                        · show Act.put _ (some 7) _ = _
                          simp only [Act.put, List.setIfInBounds_toArray, List.set_cons_zero, List.set_cons_succ, i64_w, i32_w]
                          rfl
                        exact norm_ (by first | (simp only [putAll, Act.put, List.setIfInBounds_toArray, List.set_cons_zero, List.set_cons_succ]; done) | (simp only [putAll, Act.put, List.setIfInBounds_toArray, List.set_cons_zero, List.set_cons_succ]; rfl)) (hJ1 () _ ⟨hHeld, (by (with_reducible repeat (first | refine zA ?_ _ | refine zC ?_ | refine zB ?_ _)); exact ad.out), (by (with_reducible repeat (first | refine zA ?_ _ | refine zC ?_ | refine zB ?_ _)); exact af.out), (by repeat (first | (with_reducible first | exact HB.out | apply zG | apply zE | apply zF | refine zD ?_ ak.out | refine zD ?_ am.out) | exact HB.out))⟩)
                      · skip
                        refine box_step ?hg (N := 5) ?hd (cs := #[.int .u64 0, .int .u64 0, .int .u64 0, .int .u64 0, .int .u64 0, .int .u64 0, .int .u64 0, .int .u64 0, .int .u64 0, .int .u64 0, .int .u64 0, .int .u64 0]) (t := 54) ?hr ?_; (case hd => rfl); (case hg => rfl); (case hr => first | (go_simp; done) | (go_simp; rfl))
                        intro aa hg w12 hbox hb
                        have n0_ := zK (zL (g := ae) (o := .cells #[.int .i64 a0_0, .int .u64 a0_1] 26 (0, 0)) (by (with_reducible repeat (first | refine zA ?_ _ | refine zC ?_ | refine zB ?_ _)); exact ad.out) hb)
                        have n1_ := zK (zL (g := ag) (o := .cells #[.int .i64 a1_0, .int .u64 a1_1] 26 (0, 0)) (by (with_reducible repeat (first | refine zA ?_ _ | refine zC ?_ | refine zB ?_ _)); exact af.out) hb)
                        have n2_ := zK (zI (by repeat (first | (with_reducible first | exact HB.out | apply zG | apply zE | apply zF | refine zD ?_ ak.out | refine zD ?_ am.out) | exact HB.out)) hb)
                        have n3_ := zK (hbox)
                        have n4_ := zK ((by rw [hg]; exact (zJ (by repeat (first | (with_reducible first | exact HB.out | apply zG | apply zE | apply zF | refine zD ?_ ak.out | refine zD ?_ am.out) | exact HB.out))) : w.heap.size ≤ aa))
                        have n5_ := zK ((by rw [hg]; exact (zJ (by repeat (first | (with_reducible first | exact HB.out | apply zG | apply zE | apply zF | refine zD ?_ ak.out | refine zD ?_ am.out) | exact HB.out))) : w.heap.size ≤ aa))
                        have n6_ := zK ((by rw [hg]; exact Nat.ne_of_lt (blk_lt (g := ae) (o := .cells #[.int .i64 a0_0, .int .u64 a0_1] 26 (0, 0)) (by (with_reducible repeat (first | refine zA ?_ _ | refine zC ?_ | refine zB ?_ _)); exact ad.out)) : ae ≠ aa))
                        have n7_ := zK ((by rw [hg]; exact Nat.ne_of_gt (blk_lt (g := ae) (o := .cells #[.int .i64 a0_0, .int .u64 a0_1] 26 (0, 0)) (by (with_reducible repeat (first | refine zA ?_ _ | refine zC ?_ | refine zB ?_ _)); exact ad.out)) : aa ≠ ae))
                        have n8_ := zK ((by rw [hg]; exact Nat.ne_of_lt (blk_lt (g := ag) (o := .cells #[.int .i64 a1_0, .int .u64 a1_1] 26 (0, 0)) (by (with_reducible repeat (first | refine zA ?_ _ | refine zC ?_ | refine zB ?_ _)); exact af.out)) : ag ≠ aa))
                        have n9_ := zK ((by rw [hg]; exact Nat.ne_of_gt (blk_lt (g := ag) (o := .cells #[.int .i64 a1_0, .int .u64 a1_1] 26 (0, 0)) (by (with_reducible repeat (first | refine zA ?_ _ | refine zC ?_ | refine zB ?_ _)); exact af.out)) : aa ≠ ag))
                        clear ad
                        clear af
                        clear HB
                        have ad := n0_
                        have af := n1_
                        have HB := n2_
                        have ah := n3_
                        have ap := n4_
                        have ao := n5_
                        have ac := n6_
                        have ai := n7_
                        have ab := n8_
                        have aj := n9_
                        clear n0_ n1_ n2_ n3_ n4_ n5_ n6_ n7_ n8_ n9_
                        clear hb hbox hg
                        refine hK.out _ _ ⟨(zH ad.out 0).trans rfl, (zH ad.out 1).trans rfl, (zH af.out 0).trans rfl, (zH af.out 1).trans rfl⟩ (fun hHeld => ?_)
                        clear hK K
                        refine norm_ (a' := ?_) ?_ ?_
                        rotate_left
                        · show Act.put _ (some 5) _ = _
                          simp only [Act.put, List.setIfInBounds_toArray, List.set_cons_zero, List.set_cons_succ, i64_w, i32_w]
                          rfl
                        exact norm_ (by first | (simp only [putAll, Act.put, List.setIfInBounds_toArray, List.set_cons_zero, List.set_cons_succ]; done) | (simp only [putAll, Act.put, List.setIfInBounds_toArray, List.set_cons_zero, List.set_cons_succ]; rfl)) (hJ6 (aa) _ ⟨hHeld, (by (with_reducible repeat (first | refine zA ?_ _ | refine zC ?_ | refine zB ?_ _)); exact ad.out), (by (with_reducible repeat (first | refine zA ?_ _ | refine zC ?_ | refine zB ?_ _)); exact af.out), (by (with_reducible repeat (first | refine zA ?_ _ | refine zC ?_ | refine zB ?_ _)); exact ah.out), ap.out, ao.out, ac.out, ai.out, ab.out, aj.out, (by repeat (first | (with_reducible first | exact HB.out | apply zG | apply zE | apply zF | refine zD ?_ ak.out | refine zD ?_ am.out | refine zD ?_ ao.out) | exact HB.out))⟩)
                    · skip
                      rintro aa w13 ⟨hS_, h0_, h1_, h2_, h3_, h4_, h5_, h6_, h7_, h8_, h9_⟩
                      have n0_ : Aside0 (w13.heap[ae]? = some (.cells #[.int .i64 a0_0, .int .u64 a0_1] 26 (0, 0))) := ⟨h0_⟩
                      have n1_ : Aside0 (w13.heap[ag]? = some (.cells #[.int .i64 a1_0, .int .u64 a1_1] 26 (0, 0))) := ⟨h1_⟩
                      have n2_ : Aside0 (w13.heap[aa]? = some (.cells #[.int .u64 0, .int .u64 0, .int .u64 0, .int .u64 0, .int .u64 0, .int .u64 0, .int .u64 0, .int .u64 0, .int .u64 0, .int .u64 0, .int .u64 0, .int .u64 0] 54 (0, 0))) := ⟨h2_⟩
                      have n3_ : Aside0 (w.heap.size ≤ aa) := ⟨h3_⟩
                      have n4_ : Aside0 (w.heap.size ≤ aa) := ⟨h4_⟩
                      have n5_ : Aside0 (ae ≠ aa) := ⟨h5_⟩
                      have n6_ : Aside0 (aa ≠ ae) := ⟨h6_⟩
                      have n7_ : Aside0 (ag ≠ aa) := ⟨h7_⟩
                      have n8_ : Aside0 (aa ≠ ag) := ⟨h8_⟩
                      have n9_ : Aside0 (Below w.heap.size w w13) := ⟨h9_⟩
                      clear ad
                      clear af
                      clear HB
                      clear h0_ h1_ h2_ h3_ h4_ h5_ h6_ h7_ h8_ h9_
                      have ad := n0_
                      have af := n1_
                      have ah := n2_
                      have ap := n3_
                      have ao := n4_
                      have ac := n5_
                      have ai := n6_
                      have ab := n7_
                      have aj := n8_
                      have HB := n9_
                      clear n0_ n1_ n2_ n3_ n4_ n5_ n6_ n7_ n8_ n9_
                      have hHeld : w13.cell? ⟨ae, 0, none⟩ = some (.int .i64 a0_0) ∧ w13.cell? ⟨ae, 1, none⟩ = some (.int .u64 a0_1) ∧ w13.cell? ⟨ag, 0, none⟩ = some (.int .i64 a1_0) ∧ w13.cell? ⟨ag, 1, none⟩ = some (.int .u64 a1_1) := hS_
                      refine norm_ (a' := ?_) ?_ ?_
                      rotate_left
                      · simp only [putAll, Act.put, List.setIfInBounds_toArray, List.set_cons_zero, List.set_cons_succ]
                        rfl
                      refine one_ (i := 1) (N := some 7) #[true, true, true, false, false, false, true, false] rfl rfl (one_of HT_.out (by kernel_rfl)) (by decide) (fun K hK => ?_)
                      refine goes_ Try.func36 (by kernel_rfl) rfl #[.agg #[.int .i64 a0_0, .int .u64 a0_1]] (by rfl) rfl rfl (by (try simp only [List.map_toArray, List.map_cons, List.map_nil]); first | done | rfl | (simp only [List.length_drop, List.length_take]; rfl)) ?_
                      with_reducible refine (Ref01.Digits.calls a0_0 a0_1 t157 t158 t159 t160 t161 t162 t163 t164 t165 t166 t167 t168 _ A3.out).mono ?_
                      rintro e w14 ⟨rfl, hb⟩
                      refine ⟨_, rfl, ?_⟩
                      have n0_ := zK (zL (g := ae) (o := .cells #[.int .i64 a0_0, .int .u64 a0_1] 26 (0, 0)) (by (with_reducible repeat (first | refine zA ?_ _ | refine zC ?_ | refine zB ?_ _)); exact ad.out) hb)
                      have n1_ := zK (zL (g := ag) (o := .cells #[.int .i64 a1_0, .int .u64 a1_1] 26 (0, 0)) (by (with_reducible repeat (first | refine zA ?_ _ | refine zC ?_ | refine zB ?_ _)); exact af.out) hb)
                      have n2_ := zK (zL (g := aa) (o := .cells #[.int .u64 0, .int .u64 0, .int .u64 0, .int .u64 0, .int .u64 0, .int .u64 0, .int .u64 0, .int .u64 0, .int .u64 0, .int .u64 0, .int .u64 0, .int .u64 0] 54 (0, 0)) (by (with_reducible repeat (first | refine zA ?_ _ | refine zC ?_ | refine zB ?_ _)); exact ah.out) hb)
                      have n3_ := zK (zI (by repeat (first | (with_reducible first | exact HB.out | apply zG | apply zE | apply zF | refine zD ?_ ak.out | refine zD ?_ am.out | refine zD ?_ ao.out) | exact HB.out)) hb)
                      clear ad
                      clear af
                      clear ah
                      clear HB
                      have ad := n0_
                      have af := n1_
                      have ah := n2_
                      have HB := n3_
                      clear n0_ n1_ n2_ n3_
                      (try clear hb)
                      (try clear hb2)
                      (try clear hk)
                      (try clear hi)
                      refine hK.out _ _ ⟨(zH ad.out 0).trans rfl, (zH ad.out 1).trans rfl, (zH af.out 0).trans rfl, (zH af.out 1).trans rfl⟩ (fun hHeld => ?_)
                      clear hK K
                      refine norm_ (a' := ?_) ?_ ?_
                      rotate_left
                      · show Act.put _ (some 7) _ = _
                        simp only [Act.put, List.setIfInBounds_toArray, List.set_cons_zero, List.set_cons_succ, i64_w, i32_w]
                        rfl
                      exact norm_ (by first | (simp only [putAll, Act.put, List.setIfInBounds_toArray, List.set_cons_zero, List.set_cons_succ]; done) | (simp only [putAll, Act.put, List.setIfInBounds_toArray, List.set_cons_zero, List.set_cons_succ]; rfl)) (hJ1_6 (aa) _ ⟨hHeld, (by (with_reducible repeat (first | refine zA ?_ _ | refine zC ?_ | refine zB ?_ _)); exact ad.out), (by (with_reducible repeat (first | refine zA ?_ _ | refine zC ?_ | refine zB ?_ _)); exact af.out), (by (with_reducible repeat (first | refine zA ?_ _ | refine zC ?_ | refine zB ?_ _)); exact ah.out), ap.out, ao.out, ac.out, ai.out, ab.out, aj.out, (by repeat (first | (with_reducible first | exact HB.out | apply zG | apply zE | apply zF | refine zD ?_ ak.out | refine zD ?_ am.out | refine zD ?_ ao.out) | exact HB.out))⟩)
                  · skip
                    rintro _ w13 ⟨hS_, h0_, h1_, h2_⟩
                    have n0_ : Aside0 (w13.heap[ae]? = some (.cells #[.int .i64 a0_0, .int .u64 a0_1] 26 (0, 0))) := ⟨h0_⟩
                    have n1_ : Aside0 (w13.heap[ag]? = some (.cells #[.int .i64 a1_0, .int .u64 a1_1] 26 (0, 0))) := ⟨h1_⟩
                    have n2_ : Aside0 (Below w.heap.size w w13) := ⟨h2_⟩
                    clear ad
                    clear af
                    clear HB
                    clear h0_ h1_ h2_
                    have ad := n0_
                    have af := n1_
                    have HB := n2_
                    clear n0_ n1_ n2_
                    have hHeld : w13.cell? ⟨ae, 0, none⟩ = some (.int .i64 a0_0) ∧ w13.cell? ⟨ae, 1, none⟩ = some (.int .u64 a0_1) ∧ w13.cell? ⟨ag, 0, none⟩ = some (.int .i64 a1_0) ∧ w13.cell? ⟨ag, 1, none⟩ = some (.int .u64 a1_1) := hS_
                    refine norm_ (a' := ?_) ?_ ?_
                    rotate_left
                    · simp only [putAll, Act.put, List.setIfInBounds_toArray, List.set_cons_zero, List.set_cons_succ]
                      rfl
                    refine two_ (i := 3) (j := 6) (Ni := some 9) (Nj := some 5) #[true, true, true, true, false, false, false, false] #[true, true, true, false, false, false, true, false] rfl rfl rfl rfl (two_of HT_.out (by kernel_rfl)) (by decide) (by decide) (fun K hK => ?_) (fun K hK => ?_)
                    · skip
                      refine goes_ Try.func36 (by kernel_rfl) rfl #[.agg #[.int .i64 a1_0, .int .u64 a1_1]] (by rfl) rfl rfl (by (try simp only [List.map_toArray, List.map_cons, List.map_nil]); first | done | rfl | (simp only [List.length_drop, List.length_take]; rfl)) ?_
                      with_reducible refine (Ref01.Digits.calls a1_0 a1_1 t169 t170 t171 t172 t173 t174 t175 t176 t177 t178 t179 t180 _ A4.out).mono ?_
                      rintro e w14 ⟨rfl, hb⟩
                      refine ⟨_, rfl, ?_⟩
                      have n0_ := zK (zL (g := ae) (o := .cells #[.int .i64 a0_0, .int .u64 a0_1] 26 (0, 0)) (by (with_reducible repeat (first | refine zA ?_ _ | refine zC ?_ | refine zB ?_ _)); exact ad.out) hb)
                      have n1_ := zK (zL (g := ag) (o := .cells #[.int .i64 a1_0, .int .u64 a1_1] 26 (0, 0)) (by (with_reducible repeat (first | refine zA ?_ _ | refine zC ?_ | refine zB ?_ _)); exact af.out) hb)
                      have n2_ := zK (zI (by repeat (first | (with_reducible first | exact HB.out | apply zG | apply zE | apply zF | refine zD ?_ ak.out | refine zD ?_ am.out) | exact HB.out)) hb)
                      clear ad
                      clear af
                      clear HB
                      have ad := n0_
                      have af := n1_
                      have HB := n2_
                      clear n0_ n1_ n2_
                      (try clear hb)
                      (try clear hb2)
                      (try clear hk)
                      (try clear hi)
                      refine hK.out _ _ ⟨(zH ad.out 0).trans rfl, (zH ad.out 1).trans rfl, (zH af.out 0).trans rfl, (zH af.out 1).trans rfl⟩ (fun hHeld => ?_)
                      clear hK K
                      refine norm_ (a' := ?_) ?_ ?_
                      rotate_left
                      · show Act.put _ (some 9) _ = _
                        simp only [Act.put, List.setIfInBounds_toArray, List.set_cons_zero, List.set_cons_succ, i64_w, i32_w]
                        rfl
                      exact norm_ (by first | (simp only [putAll, Act.put, List.setIfInBounds_toArray, List.set_cons_zero, List.set_cons_succ]; done) | (simp only [putAll, Act.put, List.setIfInBounds_toArray, List.set_cons_zero, List.set_cons_succ]; rfl)) (hJ1_3 () _ ⟨hHeld, (by (with_reducible repeat (first | refine zA ?_ _ | refine zC ?_ | refine zB ?_ _)); exact ad.out), (by (with_reducible repeat (first | refine zA ?_ _ | refine zC ?_ | refine zB ?_ _)); exact af.out), (by repeat (first | (with_reducible first | exact HB.out | apply zG | apply zE | apply zF | refine zD ?_ ak.out | refine zD ?_ am.out) | exact HB.out))⟩)
                    · skip
                      refine box_step ?hg (N := 5) ?hd (cs := #[.int .u64 0, .int .u64 0, .int .u64 0, .int .u64 0, .int .u64 0, .int .u64 0, .int .u64 0, .int .u64 0, .int .u64 0, .int .u64 0, .int .u64 0, .int .u64 0]) (t := 54) ?hr ?_; (case hd => rfl); (case hg => rfl); (case hr => first | (go_simp; done) | (go_simp; rfl))
                      intro aa hg w14 hbox hb
                      have n0_ := zK (zL (g := ae) (o := .cells #[.int .i64 a0_0, .int .u64 a0_1] 26 (0, 0)) (by (with_reducible repeat (first | refine zA ?_ _ | refine zC ?_ | refine zB ?_ _)); exact ad.out) hb)
                      have n1_ := zK (zL (g := ag) (o := .cells #[.int .i64 a1_0, .int .u64 a1_1] 26 (0, 0)) (by (with_reducible repeat (first | refine zA ?_ _ | refine zC ?_ | refine zB ?_ _)); exact af.out) hb)
                      have n2_ := zK (zI (by repeat (first | (with_reducible first | exact HB.out | apply zG | apply zE | apply zF | refine zD ?_ ak.out | refine zD ?_ am.out) | exact HB.out)) hb)
                      have n3_ := zK (hbox)
                      have n4_ := zK ((by rw [hg]; exact (zJ (by repeat (first | (with_reducible first | exact HB.out | apply zG | apply zE | apply zF | refine zD ?_ ak.out | refine zD ?_ am.out) | exact HB.out))) : w.heap.size ≤ aa))
                      have n5_ := zK ((by rw [hg]; exact (zJ (by repeat (first | (with_reducible first | exact HB.out | apply zG | apply zE | apply zF | refine zD ?_ ak.out | refine zD ?_ am.out) | exact HB.out))) : w.heap.size ≤ aa))
                      have n6_ := zK ((by rw [hg]; exact Nat.ne_of_lt (blk_lt (g := ae) (o := .cells #[.int .i64 a0_0, .int .u64 a0_1] 26 (0, 0)) (by (with_reducible repeat (first | refine zA ?_ _ | refine zC ?_ | refine zB ?_ _)); exact ad.out)) : ae ≠ aa))
                      have n7_ := zK ((by rw [hg]; exact Nat.ne_of_gt (blk_lt (g := ae) (o := .cells #[.int .i64 a0_0, .int .u64 a0_1] 26 (0, 0)) (by (with_reducible repeat (first | refine zA ?_ _ | refine zC ?_ | refine zB ?_ _)); exact ad.out)) : aa ≠ ae))
                      have n8_ := zK ((by rw [hg]; exact Nat.ne_of_lt (blk_lt (g := ag) (o := .cells #[.int .i64 a1_0, .int .u64 a1_1] 26 (0, 0)) (by (with_reducible repeat (first | refine zA ?_ _ | refine zC ?_ | refine zB ?_ _)); exact af.out)) : ag ≠ aa))
                      have n9_ := zK ((by rw [hg]; exact Nat.ne_of_gt (blk_lt (g := ag) (o := .cells #[.int .i64 a1_0, .int .u64 a1_1] 26 (0, 0)) (by (with_reducible repeat (first | refine zA ?_ _ | refine zC ?_ | refine zB ?_ _)); exact af.out)) : aa ≠ ag))
                      clear ad
                      clear af
                      clear HB
                      have ad := n0_
                      have af := n1_
                      have HB := n2_
                      have ah := n3_
                      have ap := n4_
                      have ao := n5_
                      have ac := n6_
                      have ai := n7_
                      have ab := n8_
                      have aj := n9_
                      clear n0_ n1_ n2_ n3_ n4_ n5_ n6_ n7_ n8_ n9_
                      clear hb hbox hg
                      refine hK.out _ _ ⟨(zH ad.out 0).trans rfl, (zH ad.out 1).trans rfl, (zH af.out 0).trans rfl, (zH af.out 1).trans rfl⟩ (fun hHeld => ?_)
                      clear hK K
                      refine norm_ (a' := ?_) ?_ ?_
                      rotate_left
                      · show Act.put _ (some 5) _ = _
                        simp only [Act.put, List.setIfInBounds_toArray, List.set_cons_zero, List.set_cons_succ, i64_w, i32_w]
                        rfl
                      exact norm_ (by first | (simp only [putAll, Act.put, List.setIfInBounds_toArray, List.set_cons_zero, List.set_cons_succ]; done) | (simp only [putAll, Act.put, List.setIfInBounds_toArray, List.set_cons_zero, List.set_cons_succ]; rfl)) (hJ1_6 (aa) _ ⟨hHeld, (by (with_reducible repeat (first | refine zA ?_ _ | refine zC ?_ | refine zB ?_ _)); exact ad.out), (by (with_reducible repeat (first | refine zA ?_ _ | refine zC ?_ | refine zB ?_ _)); exact af.out), (by (with_reducible repeat (first | refine zA ?_ _ | refine zC ?_ | refine zB ?_ _)); exact ah.out), ap.out, ao.out, ac.out, ai.out, ab.out, aj.out, (by repeat (first | (with_reducible first | exact HB.out | apply zG | apply zE | apply zF | refine zD ?_ ak.out | refine zD ?_ am.out | refine zD ?_ ao.out) | exact HB.out))⟩)
                · skip
                  rintro aa w14 ⟨hS_, h0_, h1_, h2_, h3_, h4_, h5_, h6_, h7_, h8_, h9_⟩
                  have n0_ : Aside0 (w14.heap[ae]? = some (.cells #[.int .i64 a0_0, .int .u64 a0_1] 26 (0, 0))) := ⟨h0_⟩
                  have n1_ : Aside0 (w14.heap[ag]? = some (.cells #[.int .i64 a1_0, .int .u64 a1_1] 26 (0, 0))) := ⟨h1_⟩
                  have n2_ : Aside0 (w14.heap[aa]? = some (.cells #[.int .u64 0, .int .u64 0, .int .u64 0, .int .u64 0, .int .u64 0, .int .u64 0, .int .u64 0, .int .u64 0, .int .u64 0, .int .u64 0, .int .u64 0, .int .u64 0] 54 (0, 0))) := ⟨h2_⟩
                  have n3_ : Aside0 (w.heap.size ≤ aa) := ⟨h3_⟩
                  have n4_ : Aside0 (w.heap.size ≤ aa) := ⟨h4_⟩
                  have n5_ : Aside0 (ae ≠ aa) := ⟨h5_⟩
                  have n6_ : Aside0 (aa ≠ ae) := ⟨h6_⟩
                  have n7_ : Aside0 (ag ≠ aa) := ⟨h7_⟩
                  have n8_ : Aside0 (aa ≠ ag) := ⟨h8_⟩
                  have n9_ : Aside0 (Below w.heap.size w w14) := ⟨h9_⟩
                  clear ad
                  clear af
                  clear HB
                  clear h0_ h1_ h2_ h3_ h4_ h5_ h6_ h7_ h8_ h9_
                  have ad := n0_
                  have af := n1_
                  have ah := n2_
                  have ap := n3_
                  have ao := n4_
                  have ac := n5_
                  have ai := n6_
                  have ab := n7_
                  have aj := n8_
                  have HB := n9_
                  clear n0_ n1_ n2_ n3_ n4_ n5_ n6_ n7_ n8_ n9_
                  have hHeld : w14.cell? ⟨ae, 0, none⟩ = some (.int .i64 a0_0) ∧ w14.cell? ⟨ae, 1, none⟩ = some (.int .u64 a0_1) ∧ w14.cell? ⟨ag, 0, none⟩ = some (.int .i64 a1_0) ∧ w14.cell? ⟨ag, 1, none⟩ = some (.int .u64 a1_1) := hS_
                  refine norm_ (a' := ?_) ?_ ?_
                  rotate_left
                  · simp only [putAll, Act.put, List.setIfInBounds_toArray, List.set_cons_zero, List.set_cons_succ]
                    rfl
                  refine one_ (i := 3) (N := some 9) #[true, true, true, true, false, false, true, false] rfl rfl (one_of HT_.out (by kernel_rfl)) (by decide) (fun K hK => ?_)
                  refine goes_ Try.func36 (by kernel_rfl) rfl #[.agg #[.int .i64 a1_0, .int .u64 a1_1]] (by rfl) rfl rfl (by (try simp only [List.map_toArray, List.map_cons, List.map_nil]); first | done | rfl | (simp only [List.length_drop, List.length_take]; rfl)) ?_
                  with_reducible refine (Ref01.Digits.calls a1_0 a1_1 t169 t170 t171 t172 t173 t174 t175 t176 t177 t178 t179 t180 _ A4.out).mono ?_
                  rintro e w15 ⟨rfl, hb⟩
                  refine ⟨_, rfl, ?_⟩
                  have n0_ := zK (zL (g := ae) (o := .cells #[.int .i64 a0_0, .int .u64 a0_1] 26 (0, 0)) (by (with_reducible repeat (first | refine zA ?_ _ | refine zC ?_ | refine zB ?_ _)); exact ad.out) hb)
                  have n1_ := zK (zL (g := ag) (o := .cells #[.int .i64 a1_0, .int .u64 a1_1] 26 (0, 0)) (by (with_reducible repeat (first | refine zA ?_ _ | refine zC ?_ | refine zB ?_ _)); exact af.out) hb)
                  have n2_ := zK (zL (g := aa) (o := .cells #[.int .u64 0, .int .u64 0, .int .u64 0, .int .u64 0, .int .u64 0, .int .u64 0, .int .u64 0, .int .u64 0, .int .u64 0, .int .u64 0, .int .u64 0, .int .u64 0] 54 (0, 0)) (by (with_reducible repeat (first | refine zA ?_ _ | refine zC ?_ | refine zB ?_ _)); exact ah.out) hb)
                  have n3_ := zK (zI (by repeat (first | (with_reducible first | exact HB.out | apply zG | apply zE | apply zF | refine zD ?_ ak.out | refine zD ?_ am.out | refine zD ?_ ao.out) | exact HB.out)) hb)
                  clear ad
                  clear af
                  clear ah
                  clear HB
                  have ad := n0_
                  have af := n1_
                  have ah := n2_
                  have HB := n3_
                  clear n0_ n1_ n2_ n3_
                  (try clear hb)
                  (try clear hb2)
                  (try clear hk)
                  (try clear hi)
                  refine hK.out _ _ ⟨(zH ad.out 0).trans rfl, (zH ad.out 1).trans rfl, (zH af.out 0).trans rfl, (zH af.out 1).trans rfl⟩ (fun hHeld => ?_)
                  clear hK K
                  refine norm_ (a' := ?_) ?_ ?_
                  rotate_left
                  · show Act.put _ (some 9) _ = _
                    simp only [Act.put, List.setIfInBounds_toArray, List.set_cons_zero, List.set_cons_succ, i64_w, i32_w]
                    rfl
                  exact norm_ (by first | (simp only [putAll, Act.put, List.setIfInBounds_toArray, List.set_cons_zero, List.set_cons_succ]; done) | (simp only [putAll, Act.put, List.setIfInBounds_toArray, List.set_cons_zero, List.set_cons_succ]; rfl)) (hJ1_3_6 (aa) _ ⟨hHeld, (by (with_reducible repeat (first | refine zA ?_ _ | refine zC ?_ | refine zB ?_ _)); exact ad.out), (by (with_reducible repeat (first | refine zA ?_ _ | refine zC ?_ | refine zB ?_ _)); exact af.out), (by (with_reducible repeat (first | refine zA ?_ _ | refine zC ?_ | refine zB ?_ _)); exact ah.out), ap.out, ao.out, ac.out, ai.out, ab.out, aj.out, (by repeat (first | (with_reducible first | exact HB.out | apply zG | apply zE | apply zF | refine zD ?_ ak.out | refine zD ?_ am.out | refine zD ?_ ao.out) | exact HB.out))⟩)
              · skip
                rintro _ w14 ⟨hS_, h0_, h1_, h2_⟩
                have n0_ : Aside0 (w14.heap[ae]? = some (.cells #[.int .i64 a0_0, .int .u64 a0_1] 26 (0, 0))) := ⟨h0_⟩
                have n1_ : Aside0 (w14.heap[ag]? = some (.cells #[.int .i64 a1_0, .int .u64 a1_1] 26 (0, 0))) := ⟨h1_⟩
                have n2_ : Aside0 (Below w.heap.size w w14) := ⟨h2_⟩
                clear ad
                clear af
                clear HB
                clear h0_ h1_ h2_
                have ad := n0_
                have af := n1_
                have HB := n2_
                clear n0_ n1_ n2_
                have hHeld : w14.cell? ⟨ae, 0, none⟩ = some (.int .i64 a0_0) ∧ w14.cell? ⟨ae, 1, none⟩ = some (.int .u64 a0_1) ∧ w14.cell? ⟨ag, 0, none⟩ = some (.int .i64 a1_0) ∧ w14.cell? ⟨ag, 1, none⟩ = some (.int .u64 a1_1) := hS_
                refine norm_ (a' := ?_) ?_ ?_
                rotate_left
                · simp only [putAll, Act.put, List.setIfInBounds_toArray, List.set_cons_zero, List.set_cons_succ]
                  rfl
                refine two_ (i := 4) (j := 6) (Ni := some 10) (Nj := some 5) #[true, true, true, true, true, false, false, false] #[true, true, true, true, false, false, true, false] rfl rfl rfl rfl (two_of HT_.out (by kernel_rfl)) (by decide) (by decide) (fun K hK => ?_) (fun K hK => ?_)
                · skip
                  refine goes_ Try.func38 (by kernel_rfl) rfl #[.agg #[.int .u64 t169, .int .u64 t170, .int .u64 t171, .int .u64 t172, .int .u64 t173, .int .u64 t174, .int .u64 t175, .int .u64 t176, .int .u64 t177, .int .u64 t178, .int .u64 t179, .int .u64 t180]] (by rfl) rfl rfl (by (try simp only [List.map_toArray, List.map_cons, List.map_nil]); first | done | rfl | (simp only [List.length_drop, List.length_take]; rfl)) ?_
                  with_reducible refine (Ref01.Turned.calls t169 t170 t171 t172 t173 t174 t175 t176 t177 t178 t179 t180 t181 t182 t183 t184 t185 t186 t187 t188 t189 t190 t191 t192 _ A5.out).mono ?_
                  rintro e w15 ⟨rfl, hb⟩
                  refine ⟨_, rfl, ?_⟩
                  have n0_ := zK (zL (g := ae) (o := .cells #[.int .i64 a0_0, .int .u64 a0_1] 26 (0, 0)) (by (with_reducible repeat (first | refine zA ?_ _ | refine zC ?_ | refine zB ?_ _)); exact ad.out) hb)
                  have n1_ := zK (zL (g := ag) (o := .cells #[.int .i64 a1_0, .int .u64 a1_1] 26 (0, 0)) (by (with_reducible repeat (first | refine zA ?_ _ | refine zC ?_ | refine zB ?_ _)); exact af.out) hb)
                  have n2_ := zK (zI (by repeat (first | (with_reducible first | exact HB.out | apply zG | apply zE | apply zF | refine zD ?_ ak.out | refine zD ?_ am.out) | exact HB.out)) hb)
                  clear ad
                  clear af
                  clear HB
                  have ad := n0_
                  have af := n1_
                  have HB := n2_
                  clear n0_ n1_ n2_
                  (try clear hb)
                  (try clear hb2)
                  (try clear hk)
                  (try clear hi)
                  refine hK.out _ _ ⟨(zH ad.out 0).trans rfl, (zH ad.out 1).trans rfl, (zH af.out 0).trans rfl, (zH af.out 1).trans rfl⟩ (fun hHeld => ?_)
                  clear hK K
                  refine norm_ (a' := ?_) ?_ ?_
                  rotate_left
                  · show Act.put _ (some 10) _ = _
                    simp only [Act.put, List.setIfInBounds_toArray, List.set_cons_zero, List.set_cons_succ, i64_w, i32_w]
                    rfl
                  exact norm_ (by first | (simp only [putAll, Act.put, List.setIfInBounds_toArray, List.set_cons_zero, List.set_cons_succ]; done) | (simp only [putAll, Act.put, List.setIfInBounds_toArray, List.set_cons_zero, List.set_cons_succ]; rfl)) (hJ1_3_4 () _ ⟨hHeld, (by (with_reducible repeat (first | refine zA ?_ _ | refine zC ?_ | refine zB ?_ _)); exact ad.out), (by (with_reducible repeat (first | refine zA ?_ _ | refine zC ?_ | refine zB ?_ _)); exact af.out), (by repeat (first | (with_reducible first | exact HB.out | apply zG | apply zE | apply zF | refine zD ?_ ak.out | refine zD ?_ am.out) | exact HB.out))⟩)
                · skip
                  refine box_step ?hg (N := 5) ?hd (cs := #[.int .u64 0, .int .u64 0, .int .u64 0, .int .u64 0, .int .u64 0, .int .u64 0, .int .u64 0, .int .u64 0, .int .u64 0, .int .u64 0, .int .u64 0, .int .u64 0]) (t := 54) ?hr ?_; (case hd => rfl); (case hg => rfl); (case hr => first | (go_simp; done) | (go_simp; rfl))
                  intro aa hg w15 hbox hb
                  have n0_ := zK (zL (g := ae) (o := .cells #[.int .i64 a0_0, .int .u64 a0_1] 26 (0, 0)) (by (with_reducible repeat (first | refine zA ?_ _ | refine zC ?_ | refine zB ?_ _)); exact ad.out) hb)
                  have n1_ := zK (zL (g := ag) (o := .cells #[.int .i64 a1_0, .int .u64 a1_1] 26 (0, 0)) (by (with_reducible repeat (first | refine zA ?_ _ | refine zC ?_ | refine zB ?_ _)); exact af.out) hb)
                  have n2_ := zK (zI (by repeat (first | (with_reducible first | exact HB.out | apply zG | apply zE | apply zF | refine zD ?_ ak.out | refine zD ?_ am.out) | exact HB.out)) hb)
                  have n3_ := zK (hbox)
                  have n4_ := zK ((by rw [hg]; exact (zJ (by repeat (first | (with_reducible first | exact HB.out | apply zG | apply zE | apply zF | refine zD ?_ ak.out | refine zD ?_ am.out) | exact HB.out))) : w.heap.size ≤ aa))
                  have n5_ := zK ((by rw [hg]; exact (zJ (by repeat (first | (with_reducible first | exact HB.out | apply zG | apply zE | apply zF | refine zD ?_ ak.out | refine zD ?_ am.out) | exact HB.out))) : w.heap.size ≤ aa))
                  have n6_ := zK ((by rw [hg]; exact Nat.ne_of_lt (blk_lt (g := ae) (o := .cells #[.int .i64 a0_0, .int .u64 a0_1] 26 (0, 0)) (by (with_reducible repeat (first | refine zA ?_ _ | refine zC ?_ | refine zB ?_ _)); exact ad.out)) : ae ≠ aa))
                  have n7_ := zK ((by rw [hg]; exact Nat.ne_of_gt (blk_lt (g := ae) (o := .cells #[.int .i64 a0_0, .int .u64 a0_1] 26 (0, 0)) (by (with_reducible repeat (first | refine zA ?_ _ | refine zC ?_ | refine zB ?_ _)); exact ad.out)) : aa ≠ ae))
                  have n8_ := zK ((by rw [hg]; exact Nat.ne_of_lt (blk_lt (g := ag) (o := .cells #[.int .i64 a1_0, .int .u64 a1_1] 26 (0, 0)) (by (with_reducible repeat (first | refine zA ?_ _ | refine zC ?_ | refine zB ?_ _)); exact af.out)) : ag ≠ aa))
                  have n9_ := zK ((by rw [hg]; exact Nat.ne_of_gt (blk_lt (g := ag) (o := .cells #[.int .i64 a1_0, .int .u64 a1_1] 26 (0, 0)) (by (with_reducible repeat (first | refine zA ?_ _ | refine zC ?_ | refine zB ?_ _)); exact af.out)) : aa ≠ ag))
                  clear ad
                  clear af
                  clear HB
                  have ad := n0_
                  have af := n1_
                  have HB := n2_
                  have ah := n3_
                  have ap := n4_
                  have ao := n5_
                  have ac := n6_
                  have ai := n7_
                  have ab := n8_
                  have aj := n9_
                  clear n0_ n1_ n2_ n3_ n4_ n5_ n6_ n7_ n8_ n9_
                  clear hb hbox hg
                  refine hK.out _ _ ⟨(zH ad.out 0).trans rfl, (zH ad.out 1).trans rfl, (zH af.out 0).trans rfl, (zH af.out 1).trans rfl⟩ (fun hHeld => ?_)
                  clear hK K
                  refine norm_ (a' := ?_) ?_ ?_
                  rotate_left
                  · show Act.put _ (some 5) _ = _
                    simp only [Act.put, List.setIfInBounds_toArray, List.set_cons_zero, List.set_cons_succ, i64_w, i32_w]
                    rfl
                  exact norm_ (by first | (simp only [putAll, Act.put, List.setIfInBounds_toArray, List.set_cons_zero, List.set_cons_succ]; done) | (simp only [putAll, Act.put, List.setIfInBounds_toArray, List.set_cons_zero, List.set_cons_succ]; rfl)) (hJ1_3_6 (aa) _ ⟨hHeld, (by (with_reducible repeat (first | refine zA ?_ _ | refine zC ?_ | refine zB ?_ _)); exact ad.out), (by (with_reducible repeat (first | refine zA ?_ _ | refine zC ?_ | refine zB ?_ _)); exact af.out), (by (with_reducible repeat (first | refine zA ?_ _ | refine zC ?_ | refine zB ?_ _)); exact ah.out), ap.out, ao.out, ac.out, ai.out, ab.out, aj.out, (by repeat (first | (with_reducible first | exact HB.out | apply zG | apply zE | apply zF | refine zD ?_ ak.out | refine zD ?_ am.out | refine zD ?_ ao.out) | exact HB.out))⟩)
            · skip
              rintro aa w15 ⟨hS_, h0_, h1_, h2_, h3_, h4_, h5_, h6_, h7_, h8_, h9_⟩
              have n0_ : Aside0 (w15.heap[ae]? = some (.cells #[.int .i64 a0_0, .int .u64 a0_1] 26 (0, 0))) := ⟨h0_⟩
              have n1_ : Aside0 (w15.heap[ag]? = some (.cells #[.int .i64 a1_0, .int .u64 a1_1] 26 (0, 0))) := ⟨h1_⟩
              have n2_ : Aside0 (w15.heap[aa]? = some (.cells #[.int .u64 0, .int .u64 0, .int .u64 0, .int .u64 0, .int .u64 0, .int .u64 0, .int .u64 0, .int .u64 0, .int .u64 0, .int .u64 0, .int .u64 0, .int .u64 0] 54 (0, 0))) := ⟨h2_⟩
              have n3_ : Aside0 (w.heap.size ≤ aa) := ⟨h3_⟩
              have n4_ : Aside0 (w.heap.size ≤ aa) := ⟨h4_⟩
              have n5_ : Aside0 (ae ≠ aa) := ⟨h5_⟩
              have n6_ : Aside0 (aa ≠ ae) := ⟨h6_⟩
              have n7_ : Aside0 (ag ≠ aa) := ⟨h7_⟩
              have n8_ : Aside0 (aa ≠ ag) := ⟨h8_⟩
              have n9_ : Aside0 (Below w.heap.size w w15) := ⟨h9_⟩
              clear ad
              clear af
              clear HB
              clear h0_ h1_ h2_ h3_ h4_ h5_ h6_ h7_ h8_ h9_
              have ad := n0_
              have af := n1_
              have ah := n2_
              have ap := n3_
              have ao := n4_
              have ac := n5_
              have ai := n6_
              have ab := n7_
              have aj := n8_
              have HB := n9_
              clear n0_ n1_ n2_ n3_ n4_ n5_ n6_ n7_ n8_ n9_
              have hHeld : w15.cell? ⟨ae, 0, none⟩ = some (.int .i64 a0_0) ∧ w15.cell? ⟨ae, 1, none⟩ = some (.int .u64 a0_1) ∧ w15.cell? ⟨ag, 0, none⟩ = some (.int .i64 a1_0) ∧ w15.cell? ⟨ag, 1, none⟩ = some (.int .u64 a1_1) := hS_
              refine norm_ (a' := ?_) ?_ ?_
              rotate_left
              · simp only [putAll, Act.put, List.setIfInBounds_toArray, List.set_cons_zero, List.set_cons_succ]
                rfl
              refine one_ (i := 4) (N := some 10) #[true, true, true, true, true, false, true, false] rfl rfl (one_of HT_.out (by kernel_rfl)) (by decide) (fun K hK => ?_)
              refine goes_ Try.func38 (by kernel_rfl) rfl #[.agg #[.int .u64 t169, .int .u64 t170, .int .u64 t171, .int .u64 t172, .int .u64 t173, .int .u64 t174, .int .u64 t175, .int .u64 t176, .int .u64 t177, .int .u64 t178, .int .u64 t179, .int .u64 t180]] (by rfl) rfl rfl (by (try simp only [List.map_toArray, List.map_cons, List.map_nil]); first | done | rfl | (simp only [List.length_drop, List.length_take]; rfl)) ?_
              with_reducible refine (Ref01.Turned.calls t169 t170 t171 t172 t173 t174 t175 t176 t177 t178 t179 t180 t181 t182 t183 t184 t185 t186 t187 t188 t189 t190 t191 t192 _ A5.out).mono ?_
              rintro e w16 ⟨rfl, hb⟩
              refine ⟨_, rfl, ?_⟩
              have n0_ := zK (zL (g := ae) (o := .cells #[.int .i64 a0_0, .int .u64 a0_1] 26 (0, 0)) (by (with_reducible repeat (first | refine zA ?_ _ | refine zC ?_ | refine zB ?_ _)); exact ad.out) hb)
              have n1_ := zK (zL (g := ag) (o := .cells #[.int .i64 a1_0, .int .u64 a1_1] 26 (0, 0)) (by (with_reducible repeat (first | refine zA ?_ _ | refine zC ?_ | refine zB ?_ _)); exact af.out) hb)
              have n2_ := zK (zL (g := aa) (o := .cells #[.int .u64 0, .int .u64 0, .int .u64 0, .int .u64 0, .int .u64 0, .int .u64 0, .int .u64 0, .int .u64 0, .int .u64 0, .int .u64 0, .int .u64 0, .int .u64 0] 54 (0, 0)) (by (with_reducible repeat (first | refine zA ?_ _ | refine zC ?_ | refine zB ?_ _)); exact ah.out) hb)
              have n3_ := zK (zI (by repeat (first | (with_reducible first | exact HB.out | apply zG | apply zE | apply zF | refine zD ?_ ak.out | refine zD ?_ am.out | refine zD ?_ ao.out) | exact HB.out)) hb)
              clear ad
              clear af
              clear ah
              clear HB
              have ad := n0_
              have af := n1_
              have ah := n2_
              have HB := n3_
              clear n0_ n1_ n2_ n3_
              (try clear hb)
              (try clear hb2)
              (try clear hk)
              (try clear hi)
              refine hK.out _ _ ⟨(zH ad.out 0).trans rfl, (zH ad.out 1).trans rfl, (zH af.out 0).trans rfl, (zH af.out 1).trans rfl⟩ (fun hHeld => ?_)
              clear hK K
              refine norm_ (a' := ?_) ?_ ?_
              rotate_left
              · show Act.put _ (some 10) _ = _
                simp only [Act.put, List.setIfInBounds_toArray, List.set_cons_zero, List.set_cons_succ, i64_w, i32_w]
                rfl
              exact norm_ (by first | (simp only [putAll, Act.put, List.setIfInBounds_toArray, List.set_cons_zero, List.set_cons_succ]; done) | (simp only [putAll, Act.put, List.setIfInBounds_toArray, List.set_cons_zero, List.set_cons_succ]; rfl)) (hJ1_3_4_6 (aa) _ ⟨hHeld, (by (with_reducible repeat (first | refine zA ?_ _ | refine zC ?_ | refine zB ?_ _)); exact ad.out), (by (with_reducible repeat (first | refine zA ?_ _ | refine zC ?_ | refine zB ?_ _)); exact af.out), (by (with_reducible repeat (first | refine zA ?_ _ | refine zC ?_ | refine zB ?_ _)); exact ah.out), ap.out, ao.out, ac.out, ai.out, ab.out, aj.out, (by repeat (first | (with_reducible first | exact HB.out | apply zG | apply zE | apply zF | refine zD ?_ ak.out | refine zD ?_ am.out | refine zD ?_ ao.out) | exact HB.out))⟩)
          · skip
            rintro _ w15 ⟨hS_, h0_, h1_, h2_⟩
            have n0_ : Aside0 (w15.heap[ae]? = some (.cells #[.int .i64 a0_0, .int .u64 a0_1] 26 (0, 0))) := ⟨h0_⟩
            have n1_ : Aside0 (w15.heap[ag]? = some (.cells #[.int .i64 a1_0, .int .u64 a1_1] 26 (0, 0))) := ⟨h1_⟩
            have n2_ : Aside0 (Below w.heap.size w w15) := ⟨h2_⟩
            clear ad
            clear af
            clear HB
            clear h0_ h1_ h2_
            have ad := n0_
            have af := n1_
            have HB := n2_
            clear n0_ n1_ n2_
            have hHeld : w15.cell? ⟨ae, 0, none⟩ = some (.int .i64 a0_0) ∧ w15.cell? ⟨ae, 1, none⟩ = some (.int .u64 a0_1) ∧ w15.cell? ⟨ag, 0, none⟩ = some (.int .i64 a1_0) ∧ w15.cell? ⟨ag, 1, none⟩ = some (.int .u64 a1_1) := hS_
            refine norm_ (a' := ?_) ?_ ?_
            rotate_left
            · simp only [putAll, Act.put, List.setIfInBounds_toArray, List.set_cons_zero, List.set_cons_succ]
              rfl
            refine two_ (i := 5) (j := 6) (Ni := some 11) (Nj := some 5) #[true, true, true, true, true, true, false, false] #[true, true, true, true, true, false, true, false] rfl rfl rfl rfl (two_of HT_.out (by kernel_rfl)) (by decide) (by decide) (fun K hK => ?_) (fun K hK => ?_)
            · skip
              refine goes_ Try.func35 (by kernel_rfl) rfl #[.agg #[.int .u64 t157, .int .u64 t158, .int .u64 t159, .int .u64 t160, .int .u64 t161, .int .u64 t162, .int .u64 t163, .int .u64 t164, .int .u64 t165, .int .u64 t166, .int .u64 t167, .int .u64 t168], .agg #[.int .u64 t181, .int .u64 t182, .int .u64 t183, .int .u64 t184, .int .u64 t185, .int .u64 t186, .int .u64 t187, .int .u64 t188, .int .u64 t189, .int .u64 t190, .int .u64 t191, .int .u64 t192]] (by rfl) rfl rfl (by (try simp only [List.map_toArray, List.map_cons, List.map_nil]); first | done | rfl | (simp only [List.length_drop, List.length_take]; rfl)) ?_
              with_reducible refine (Ref01.Plus.calls t157 t158 t159 t160 t161 t162 t163 t164 t165 t166 t167 t168 t181 t182 t183 t184 t185 t186 t187 t188 t189 t190 t191 t192 t193 t194 t195 t196 t197 t198 t199 t200 t201 t202 t203 t204 _ A6.out).mono ?_
              rintro e w16 ⟨rfl, hb⟩
              refine ⟨_, rfl, ?_⟩
              have n0_ := zK (zL (g := ae) (o := .cells #[.int .i64 a0_0, .int .u64 a0_1] 26 (0, 0)) (by (with_reducible repeat (first | refine zA ?_ _ | refine zC ?_ | refine zB ?_ _)); exact ad.out) hb)
              have n1_ := zK (zL (g := ag) (o := .cells #[.int .i64 a1_0, .int .u64 a1_1] 26 (0, 0)) (by (with_reducible repeat (first | refine zA ?_ _ | refine zC ?_ | refine zB ?_ _)); exact af.out) hb)
              have n2_ := zK (zI (by repeat (first | (with_reducible first | exact HB.out | apply zG | apply zE | apply zF | refine zD ?_ ak.out | refine zD ?_ am.out) | exact HB.out)) hb)
              clear ad
              clear af
              clear HB
              have ad := n0_
              have af := n1_
              have HB := n2_
              clear n0_ n1_ n2_
              (try clear hb)
              (try clear hb2)
              (try clear hk)
              (try clear hi)
              refine hK.out _ _ ⟨(zH ad.out 0).trans rfl, (zH ad.out 1).trans rfl, (zH af.out 0).trans rfl, (zH af.out 1).trans rfl⟩ (fun hHeld => ?_)
              clear hK K
              refine norm_ (a' := ?_) ?_ ?_
              rotate_left
              · show Act.put _ (some 11) _ = _
                simp only [Act.put, List.setIfInBounds_toArray, List.set_cons_zero, List.set_cons_succ, i64_w, i32_w]
                rfl
              exact norm_ (by first | (simp only [putAll, Act.put, List.setIfInBounds_toArray, List.set_cons_zero, List.set_cons_succ]; done) | (simp only [putAll, Act.put, List.setIfInBounds_toArray, List.set_cons_zero, List.set_cons_succ]; rfl)) (hJ1_3_4_5 () _ ⟨hHeld, (by (with_reducible repeat (first | refine zA ?_ _ | refine zC ?_ | refine zB ?_ _)); exact ad.out), (by (with_reducible repeat (first | refine zA ?_ _ | refine zC ?_ | refine zB ?_ _)); exact af.out), (by repeat (first | (with_reducible first | exact HB.out | apply zG | apply zE | apply zF | refine zD ?_ ak.out | refine zD ?_ am.out) | exact HB.out))⟩)
            · skip
              refine box_step ?hg (N := 5) ?hd (cs := #[.int .u64 0, .int .u64 0, .int .u64 0, .int .u64 0, .int .u64 0, .int .u64 0, .int .u64 0, .int .u64 0, .int .u64 0, .int .u64 0, .int .u64 0, .int .u64 0]) (t := 54) ?hr ?_; (case hd => rfl); (case hg => rfl); (case hr => first | (go_simp; done) | (go_simp; rfl))
              intro aa hg w16 hbox hb
              have n0_ := zK (zL (g := ae) (o := .cells #[.int .i64 a0_0, .int .u64 a0_1] 26 (0, 0)) (by (with_reducible repeat (first | refine zA ?_ _ | refine zC ?_ | refine zB ?_ _)); exact ad.out) hb)
              have n1_ := zK (zL (g := ag) (o := .cells #[.int .i64 a1_0, .int .u64 a1_1] 26 (0, 0)) (by (with_reducible repeat (first | refine zA ?_ _ | refine zC ?_ | refine zB ?_ _)); exact af.out) hb)
              have n2_ := zK (zI (by repeat (first | (with_reducible first | exact HB.out | apply zG | apply zE | apply zF | refine zD ?_ ak.out | refine zD ?_ am.out) | exact HB.out)) hb)
              have n3_ := zK (hbox)
              have n4_ := zK ((by rw [hg]; exact (zJ (by repeat (first | (with_reducible first | exact HB.out | apply zG | apply zE | apply zF | refine zD ?_ ak.out | refine zD ?_ am.out) | exact HB.out))) : w.heap.size ≤ aa))
              have n5_ := zK ((by rw [hg]; exact (zJ (by repeat (first | (with_reducible first | exact HB.out | apply zG | apply zE | apply zF | refine zD ?_ ak.out | refine zD ?_ am.out) | exact HB.out))) : w.heap.size ≤ aa))
              have n6_ := zK ((by rw [hg]; exact Nat.ne_of_lt (blk_lt (g := ae) (o := .cells #[.int .i64 a0_0, .int .u64 a0_1] 26 (0, 0)) (by (with_reducible repeat (first | refine zA ?_ _ | refine zC ?_ | refine zB ?_ _)); exact ad.out)) : ae ≠ aa))
              have n7_ := zK ((by rw [hg]; exact Nat.ne_of_gt (blk_lt (g := ae) (o := .cells #[.int .i64 a0_0, .int .u64 a0_1] 26 (0, 0)) (by (with_reducible repeat (first | refine zA ?_ _ | refine zC ?_ | refine zB ?_ _)); exact ad.out)) : aa ≠ ae))
              have n8_ := zK ((by rw [hg]; exact Nat.ne_of_lt (blk_lt (g := ag) (o := .cells #[.int .i64 a1_0, .int .u64 a1_1] 26 (0, 0)) (by (with_reducible repeat (first | refine zA ?_ _ | refine zC ?_ | refine zB ?_ _)); exact af.out)) : ag ≠ aa))
              have n9_ := zK ((by rw [hg]; exact Nat.ne_of_gt (blk_lt (g := ag) (o := .cells #[.int .i64 a1_0, .int .u64 a1_1] 26 (0, 0)) (by (with_reducible repeat (first | refine zA ?_ _ | refine zC ?_ | refine zB ?_ _)); exact af.out)) : aa ≠ ag))
              clear ad
              clear af
              clear HB
              have ad := n0_
              have af := n1_
              have HB := n2_
              have ah := n3_
              have ap := n4_
              have ao := n5_
              have ac := n6_
              have ai := n7_
              have ab := n8_
              have aj := n9_
              clear n0_ n1_ n2_ n3_ n4_ n5_ n6_ n7_ n8_ n9_
              clear hb hbox hg
              refine hK.out _ _ ⟨(zH ad.out 0).trans rfl, (zH ad.out 1).trans rfl, (zH af.out 0).trans rfl, (zH af.out 1).trans rfl⟩ (fun hHeld => ?_)
              clear hK K
              refine norm_ (a' := ?_) ?_ ?_
              rotate_left
              · show Act.put _ (some 5) _ = _
                simp only [Act.put, List.setIfInBounds_toArray, List.set_cons_zero, List.set_cons_succ, i64_w, i32_w]
                rfl
              exact norm_ (by first | (simp only [putAll, Act.put, List.setIfInBounds_toArray, List.set_cons_zero, List.set_cons_succ]; done) | (simp only [putAll, Act.put, List.setIfInBounds_toArray, List.set_cons_zero, List.set_cons_succ]; rfl)) (hJ1_3_4_6 (aa) _ ⟨hHeld, (by (with_reducible repeat (first | refine zA ?_ _ | refine zC ?_ | refine zB ?_ _)); exact ad.out), (by (with_reducible repeat (first | refine zA ?_ _ | refine zC ?_ | refine zB ?_ _)); exact af.out), (by (with_reducible repeat (first | refine zA ?_ _ | refine zC ?_ | refine zB ?_ _)); exact ah.out), ap.out, ao.out, ac.out, ai.out, ab.out, aj.out, (by repeat (first | (with_reducible first | exact HB.out | apply zG | apply zE | apply zF | refine zD ?_ ak.out | refine zD ?_ am.out | refine zD ?_ ao.out) | exact HB.out))⟩)
        · skip
          rintro aa w16 ⟨hS_, h0_, h1_, h2_, h3_, h4_, h5_, h6_, h7_, h8_, h9_⟩
          have n0_ : Aside0 (w16.heap[ae]? = some (.cells #[.int .i64 a0_0, .int .u64 a0_1] 26 (0, 0))) := ⟨h0_⟩
          have n1_ : Aside0 (w16.heap[ag]? = some (.cells #[.int .i64 a1_0, .int .u64 a1_1] 26 (0, 0))) := ⟨h1_⟩
          have n2_ : Aside0 (w16.heap[aa]? = some (.cells #[.int .u64 0, .int .u64 0, .int .u64 0, .int .u64 0, .int .u64 0, .int .u64 0, .int .u64 0, .int .u64 0, .int .u64 0, .int .u64 0, .int .u64 0, .int .u64 0] 54 (0, 0))) := ⟨h2_⟩
          have n3_ : Aside0 (w.heap.size ≤ aa) := ⟨h3_⟩
          have n4_ : Aside0 (w.heap.size ≤ aa) := ⟨h4_⟩
          have n5_ : Aside0 (ae ≠ aa) := ⟨h5_⟩
          have n6_ : Aside0 (aa ≠ ae) := ⟨h6_⟩
          have n7_ : Aside0 (ag ≠ aa) := ⟨h7_⟩
          have n8_ : Aside0 (aa ≠ ag) := ⟨h8_⟩
          have n9_ : Aside0 (Below w.heap.size w w16) := ⟨h9_⟩
          clear ad
          clear af
          clear HB
          clear h0_ h1_ h2_ h3_ h4_ h5_ h6_ h7_ h8_ h9_
          have ad := n0_
          have af := n1_
          have ah := n2_
          have ap := n3_
          have ao := n4_
          have ac := n5_
          have ai := n6_
          have ab := n7_
          have aj := n8_
          have HB := n9_
          clear n0_ n1_ n2_ n3_ n4_ n5_ n6_ n7_ n8_ n9_
          have hHeld : w16.cell? ⟨ae, 0, none⟩ = some (.int .i64 a0_0) ∧ w16.cell? ⟨ae, 1, none⟩ = some (.int .u64 a0_1) ∧ w16.cell? ⟨ag, 0, none⟩ = some (.int .i64 a1_0) ∧ w16.cell? ⟨ag, 1, none⟩ = some (.int .u64 a1_1) := hS_
          refine norm_ (a' := ?_) ?_ ?_
          rotate_left
          · simp only [putAll, Act.put, List.setIfInBounds_toArray, List.set_cons_zero, List.set_cons_succ]
            rfl
          refine one_ (i := 5) (N := some 11) #[true, true, true, true, true, true, true, false] rfl rfl (one_of HT_.out (by kernel_rfl)) (by decide) (fun K hK => ?_)
          refine goes_ Try.func35 (by kernel_rfl) rfl #[.agg #[.int .u64 t157, .int .u64 t158, .int .u64 t159, .int .u64 t160, .int .u64 t161, .int .u64 t162, .int .u64 t163, .int .u64 t164, .int .u64 t165, .int .u64 t166, .int .u64 t167, .int .u64 t168], .agg #[.int .u64 t181, .int .u64 t182, .int .u64 t183, .int .u64 t184, .int .u64 t185, .int .u64 t186, .int .u64 t187, .int .u64 t188, .int .u64 t189, .int .u64 t190, .int .u64 t191, .int .u64 t192]] (by rfl) rfl rfl (by (try simp only [List.map_toArray, List.map_cons, List.map_nil]); first | done | rfl | (simp only [List.length_drop, List.length_take]; rfl)) ?_
          with_reducible refine (Ref01.Plus.calls t157 t158 t159 t160 t161 t162 t163 t164 t165 t166 t167 t168 t181 t182 t183 t184 t185 t186 t187 t188 t189 t190 t191 t192 t193 t194 t195 t196 t197 t198 t199 t200 t201 t202 t203 t204 _ A6.out).mono ?_
          rintro e w17 ⟨rfl, hb⟩
          refine ⟨_, rfl, ?_⟩
          have n0_ := zK (zL (g := ae) (o := .cells #[.int .i64 a0_0, .int .u64 a0_1] 26 (0, 0)) (by (with_reducible repeat (first | refine zA ?_ _ | refine zC ?_ | refine zB ?_ _)); exact ad.out) hb)
          have n1_ := zK (zL (g := ag) (o := .cells #[.int .i64 a1_0, .int .u64 a1_1] 26 (0, 0)) (by (with_reducible repeat (first | refine zA ?_ _ | refine zC ?_ | refine zB ?_ _)); exact af.out) hb)
          have n2_ := zK (zL (g := aa) (o := .cells #[.int .u64 0, .int .u64 0, .int .u64 0, .int .u64 0, .int .u64 0, .int .u64 0, .int .u64 0, .int .u64 0, .int .u64 0, .int .u64 0, .int .u64 0, .int .u64 0] 54 (0, 0)) (by (with_reducible repeat (first | refine zA ?_ _ | refine zC ?_ | refine zB ?_ _)); exact ah.out) hb)
          have n3_ := zK (zI (by repeat (first | (with_reducible first | exact HB.out | apply zG | apply zE | apply zF | refine zD ?_ ak.out | refine zD ?_ am.out | refine zD ?_ ao.out) | exact HB.out)) hb)
          clear ad
          clear af
          clear ah
          clear HB
          have ad := n0_
          have af := n1_
          have ah := n2_
          have HB := n3_
          clear n0_ n1_ n2_ n3_
          (try clear hb)
          (try clear hb2)
          (try clear hk)
          (try clear hi)
          refine hK.out _ _ ⟨(zH ad.out 0).trans rfl, (zH ad.out 1).trans rfl, (zH af.out 0).trans rfl, (zH af.out 1).trans rfl⟩ (fun hHeld => ?_)
          clear hK K
          refine norm_ (a' := ?_) ?_ ?_
          rotate_left
          · show Act.put _ (some 11) _ = _
            simp only [Act.put, List.setIfInBounds_toArray, List.set_cons_zero, List.set_cons_succ, i64_w, i32_w]
            rfl
          exact norm_ (by first | (simp only [putAll, Act.put, List.setIfInBounds_toArray, List.set_cons_zero, List.set_cons_succ]; done) | (simp only [putAll, Act.put, List.setIfInBounds_toArray, List.set_cons_zero, List.set_cons_succ]; rfl)) (hJ1_3_4_5_6 (aa) _ ⟨hHeld, (by (with_reducible repeat (first | refine zA ?_ _ | refine zC ?_ | refine zB ?_ _)); exact ad.out), (by (with_reducible repeat (first | refine zA ?_ _ | refine zC ?_ | refine zB ?_ _)); exact af.out), (by (with_reducible repeat (first | refine zA ?_ _ | refine zC ?_ | refine zB ?_ _)); exact ah.out), ap.out, ao.out, ac.out, ai.out, ab.out, aj.out, (by repeat (first | (with_reducible first | exact HB.out | apply zG | apply zE | apply zF | refine zD ?_ ak.out | refine zD ?_ am.out | refine zD ?_ ao.out) | exact HB.out))⟩)
      · skip
        rintro _ w16 ⟨hS_, h0_, h1_, h2_⟩
        have n0_ : Aside0 (w16.heap[ae]? = some (.cells #[.int .i64 a0_0, .int .u64 a0_1] 26 (0, 0))) := ⟨h0_⟩
        have n1_ : Aside0 (w16.heap[ag]? = some (.cells #[.int .i64 a1_0, .int .u64 a1_1] 26 (0, 0))) := ⟨h1_⟩
        have n2_ : Aside0 (Below w.heap.size w w16) := ⟨h2_⟩
        clear ad
        clear af
        clear HB
        clear h0_ h1_ h2_
        have ad := n0_
        have af := n1_
        have HB := n2_
        clear n0_ n1_ n2_
        have hHeld : w16.cell? ⟨ae, 0, none⟩ = some (.int .i64 a0_0) ∧ w16.cell? ⟨ae, 1, none⟩ = some (.int .u64 a0_1) ∧ w16.cell? ⟨ag, 0, none⟩ = some (.int .i64 a1_0) ∧ w16.cell? ⟨ag, 1, none⟩ = some (.int .u64 a1_1) := hS_
        refine norm_ (a' := ?_) ?_ ?_
        rotate_left
        · simp only [putAll, Act.put, List.setIfInBounds_toArray, List.set_cons_zero, List.set_cons_succ]
          rfl
        refine one_ (i := 6) (N := some 5) #[true, true, true, true, true, true, true, false] rfl rfl (one_of HT_.out (by kernel_rfl)) (by decide) (fun K hK => ?_)
        refine box_step ?hg (N := 5) ?hd (cs := #[.int .u64 0, .int .u64 0, .int .u64 0, .int .u64 0, .int .u64 0, .int .u64 0, .int .u64 0, .int .u64 0, .int .u64 0, .int .u64 0, .int .u64 0, .int .u64 0]) (t := 54) ?hr ?_; (case hd => rfl); (case hg => rfl); (case hr => first | (go_simp; done) | (go_simp; rfl))
        intro aa hg w17 hbox hb
        have n0_ := zK (zL (g := ae) (o := .cells #[.int .i64 a0_0, .int .u64 a0_1] 26 (0, 0)) (by (with_reducible repeat (first | refine zA ?_ _ | refine zC ?_ | refine zB ?_ _)); exact ad.out) hb)
        have n1_ := zK (zL (g := ag) (o := .cells #[.int .i64 a1_0, .int .u64 a1_1] 26 (0, 0)) (by (with_reducible repeat (first | refine zA ?_ _ | refine zC ?_ | refine zB ?_ _)); exact af.out) hb)
        have n2_ := zK (zI (by repeat (first | (with_reducible first | exact HB.out | apply zG | apply zE | apply zF | refine zD ?_ ak.out | refine zD ?_ am.out) | exact HB.out)) hb)
        have n3_ := zK (hbox)
        have n4_ := zK ((by rw [hg]; exact (zJ (by repeat (first | (with_reducible first | exact HB.out | apply zG | apply zE | apply zF | refine zD ?_ ak.out | refine zD ?_ am.out) | exact HB.out))) : w.heap.size ≤ aa))
        have n5_ := zK ((by rw [hg]; exact (zJ (by repeat (first | (with_reducible first | exact HB.out | apply zG | apply zE | apply zF | refine zD ?_ ak.out | refine zD ?_ am.out) | exact HB.out))) : w.heap.size ≤ aa))
        have n6_ := zK ((by rw [hg]; exact Nat.ne_of_lt (blk_lt (g := ae) (o := .cells #[.int .i64 a0_0, .int .u64 a0_1] 26 (0, 0)) (by (with_reducible repeat (first | refine zA ?_ _ | refine zC ?_ | refine zB ?_ _)); exact ad.out)) : ae ≠ aa))
        have n7_ := zK ((by rw [hg]; exact Nat.ne_of_gt (blk_lt (g := ae) (o := .cells #[.int .i64 a0_0, .int .u64 a0_1] 26 (0, 0)) (by (with_reducible repeat (first | refine zA ?_ _ | refine zC ?_ | refine zB ?_ _)); exact ad.out)) : aa ≠ ae))
        have n8_ := zK ((by rw [hg]; exact Nat.ne_of_lt (blk_lt (g := ag) (o := .cells #[.int .i64 a1_0, .int .u64 a1_1] 26 (0, 0)) (by (with_reducible repeat (first | refine zA ?_ _ | refine zC ?_ | refine zB ?_ _)); exact af.out)) : ag ≠ aa))
        have n9_ := zK ((by rw [hg]; exact Nat.ne_of_gt (blk_lt (g := ag) (o := .cells #[.int .i64 a1_0, .int .u64 a1_1] 26 (0, 0)) (by (with_reducible repeat (first | refine zA ?_ _ | refine zC ?_ | refine zB ?_ _)); exact af.out)) : aa ≠ ag))
        clear ad
        clear af
        clear HB
        have ad := n0_
        have af := n1_
        have HB := n2_
        have ah := n3_
        have ap := n4_
        have ao := n5_
        have ac := n6_
        have ai := n7_
        have ab := n8_
        have aj := n9_
        clear n0_ n1_ n2_ n3_ n4_ n5_ n6_ n7_ n8_ n9_
        clear hb hbox hg
        refine hK.out _ _ ⟨(zH ad.out 0).trans rfl, (zH ad.out 1).trans rfl, (zH af.out 0).trans rfl, (zH af.out 1).trans rfl⟩ (fun hHeld => ?_)
        clear hK K
        refine norm_ (a' := ?_) ?_ ?_
        rotate_left
        · show Act.put _ (some 5) _ = _
          simp only [Act.put, List.setIfInBounds_toArray, List.set_cons_zero, List.set_cons_succ, i64_w, i32_w]
          rfl
        exact norm_ (by first | (simp only [putAll, Act.put, List.setIfInBounds_toArray, List.set_cons_zero, List.set_cons_succ]; done) | (simp only [putAll, Act.put, List.setIfInBounds_toArray, List.set_cons_zero, List.set_cons_succ]; rfl)) (hJ1_3_4_5_6 (aa) _ ⟨hHeld, (by (with_reducible repeat (first | refine zA ?_ _ | refine zC ?_ | refine zB ?_ _)); exact ad.out), (by (with_reducible repeat (first | refine zA ?_ _ | refine zC ?_ | refine zB ?_ _)); exact af.out), (by (with_reducible repeat (first | refine zA ?_ _ | refine zC ?_ | refine zB ?_ _)); exact ah.out), ap.out, ao.out, ac.out, ai.out, ab.out, aj.out, (by repeat (first | (with_reducible first | exact HB.out | apply zG | apply zE | apply zF | refine zD ?_ ak.out | refine zD ?_ am.out | refine zD ?_ ao.out) | exact HB.out))⟩)
    rintro aa w17 ⟨hS_, h0_, h1_, h2_, h3_, h4_, h5_, h6_, h7_, h8_, h9_⟩
    have n0_ : Aside0 (w17.heap[ae]? = some (.cells #[.int .i64 a0_0, .int .u64 a0_1] 26 (0, 0))) := ⟨h0_⟩
    have n1_ : Aside0 (w17.heap[ag]? = some (.cells #[.int .i64 a1_0, .int .u64 a1_1] 26 (0, 0))) := ⟨h1_⟩
    have n2_ : Aside0 (w17.heap[aa]? = some (.cells #[.int .u64 0, .int .u64 0, .int .u64 0, .int .u64 0, .int .u64 0, .int .u64 0, .int .u64 0, .int .u64 0, .int .u64 0, .int .u64 0, .int .u64 0, .int .u64 0] 54 (0, 0))) := ⟨h2_⟩
    have n3_ : Aside0 (w.heap.size ≤ aa) := ⟨h3_⟩
    have n4_ : Aside0 (w.heap.size ≤ aa) := ⟨h4_⟩
    have n5_ : Aside0 (ae ≠ aa) := ⟨h5_⟩
    have n6_ : Aside0 (aa ≠ ae) := ⟨h6_⟩
    have n7_ : Aside0 (ag ≠ aa) := ⟨h7_⟩
    have n8_ : Aside0 (aa ≠ ag) := ⟨h8_⟩
    have n9_ : Aside0 (Below w.heap.size w w17) := ⟨h9_⟩
    clear ad
    clear af
    clear HB
    clear h0_ h1_ h2_ h3_ h4_ h5_ h6_ h7_ h8_ h9_
    have ad := n0_
    have af := n1_
    have ah := n2_
    have ap := n3_
    have ao := n4_
    have ac := n5_
    have ai := n6_
    have ab := n7_
    have aj := n8_
    have HB := n9_
    clear n0_ n1_ n2_ n3_ n4_ n5_ n6_ n7_ n8_ n9_
    have hHeld : w17.cell? ⟨ae, 0, none⟩ = some (.int .i64 a0_0) ∧ w17.cell? ⟨ae, 1, none⟩ = some (.int .u64 a0_1) ∧ w17.cell? ⟨ag, 0, none⟩ = some (.int .i64 a1_0) ∧ w17.cell? ⟨ag, 1, none⟩ = some (.int .u64 a1_1) := hS_
    refine norm_ (a' := ?_) ?_ ?_
    rotate_left
    · simp only [putAll, Act.put, List.setIfInBounds_toArray, List.set_cons_zero, List.set_cons_succ]
      rfl
    refine one_ (i := 7) (N := none) #[true, true, true, true, true, true, true, true] rfl rfl (one_of HT_.out (by kernel_rfl)) (by decide) (fun K hK => ?_)
    have hs18 : w17.cell? ⟨aa, 0, none⟩ = some (.int .u64 0) := (zH ah.out 0).trans rfl
    have hfs18 := blk_frozen ah.out 0
    have hns18_0 := ac.out
    have hns18_1 := ab.out
    have hms18_0 := ai.out
    have hms18_1 := aj.out
    have hs19 : w17.cell? ⟨aa, 1, none⟩ = some (.int .u64 0) := (zH ah.out 1).trans rfl
    have hfs19 := blk_frozen ah.out 1
    have hns19_0 := ac.out
    have hns19_1 := ab.out
    have hms19_0 := ai.out
    have hms19_1 := aj.out
    have hs20 : w17.cell? ⟨aa, 2, none⟩ = some (.int .u64 0) := (zH ah.out 2).trans rfl
    have hfs20 := blk_frozen ah.out 2
    have hns20_0 := ac.out
    have hns20_1 := ab.out
    have hms20_0 := ai.out
    have hms20_1 := aj.out
    have hs21 : w17.cell? ⟨aa, 3, none⟩ = some (.int .u64 0) := (zH ah.out 3).trans rfl
    have hfs21 := blk_frozen ah.out 3
    have hns21_0 := ac.out
    have hns21_1 := ab.out
    have hms21_0 := ai.out
    have hms21_1 := aj.out
    have hs22 : w17.cell? ⟨aa, 4, none⟩ = some (.int .u64 0) := (zH ah.out 4).trans rfl
    have hfs22 := blk_frozen ah.out 4
    have hns22_0 := ac.out
    have hns22_1 := ab.out
    have hms22_0 := ai.out
    have hms22_1 := aj.out
    have hs23 : w17.cell? ⟨aa, 5, none⟩ = some (.int .u64 0) := (zH ah.out 5).trans rfl
    have hfs23 := blk_frozen ah.out 5
    have hns23_0 := ac.out
    have hns23_1 := ab.out
    have hms23_0 := ai.out
    have hms23_1 := aj.out
    have hs24 : w17.cell? ⟨aa, 6, none⟩ = some (.int .u64 0) := (zH ah.out 6).trans rfl
    have hfs24 := blk_frozen ah.out 6
    have hns24_0 := ac.out
    have hns24_1 := ab.out
    have hms24_0 := ai.out
    have hms24_1 := aj.out
    have hs25 : w17.cell? ⟨aa, 7, none⟩ = some (.int .u64 0) := (zH ah.out 7).trans rfl
    have hfs25 := blk_frozen ah.out 7
    have hns25_0 := ac.out
    have hns25_1 := ab.out
    have hms25_0 := ai.out
    have hms25_1 := aj.out
    have hs26 : w17.cell? ⟨aa, 8, none⟩ = some (.int .u64 0) := (zH ah.out 8).trans rfl
    have hfs26 := blk_frozen ah.out 8
    have hns26_0 := ac.out
    have hns26_1 := ab.out
    have hms26_0 := ai.out
    have hms26_1 := aj.out
    have hs27 : w17.cell? ⟨aa, 9, none⟩ = some (.int .u64 0) := (zH ah.out 9).trans rfl
    have hfs27 := blk_frozen ah.out 9
    have hns27_0 := ac.out
    have hns27_1 := ab.out
    have hms27_0 := ai.out
    have hms27_1 := aj.out
    have hs28 : w17.cell? ⟨aa, 10, none⟩ = some (.int .u64 0) := (zH ah.out 10).trans rfl
    have hfs28 := blk_frozen ah.out 10
    have hns28_0 := ac.out
    have hns28_1 := ab.out
    have hms28_0 := ai.out
    have hms28_1 := aj.out
    have hs29 : w17.cell? ⟨aa, 11, none⟩ = some (.int .u64 0) := (zH ah.out 11).trans rfl
    have hfs29 := blk_frozen ah.out 11
    have hns29_0 := ac.out
    have hns29_1 := ab.out
    have hms29_0 := ai.out
    have hms29_1 := aj.out
    refine skip_ (w1 := ?_) (by rfl) rfl ?_ ?_
    rotate_left
    · go_simp
      rfl
    refine hK.out _ _ ⟨((cell_far (p := ⟨aa, _, none⟩) ac.out _).trans (((cell_far (p := ⟨aa, _, none⟩) ac.out _).trans (((cell_far (p := ⟨aa, _, none⟩) ac.out _).trans (((cell_far (p := ⟨aa, _, none⟩) ac.out _).trans (((cell_far (p := ⟨aa, _, none⟩) ac.out _).trans (((cell_far (p := ⟨aa, _, none⟩) ac.out _).trans (((cell_far (p := ⟨aa, _, none⟩) ac.out _).trans (((cell_far (p := ⟨aa, _, none⟩) ac.out _).trans (((cell_far (p := ⟨aa, _, none⟩) ac.out _).trans (((cell_far (p := ⟨aa, _, none⟩) ac.out _).trans (((cell_far (p := ⟨aa, _, none⟩) ac.out _).trans (((cell_far (p := ⟨aa, _, none⟩) ac.out _).trans (hHeld.1)))))))))))))))))))))))), ((cell_far (p := ⟨aa, _, none⟩) ac.out _).trans (((cell_far (p := ⟨aa, _, none⟩) ac.out _).trans (((cell_far (p := ⟨aa, _, none⟩) ac.out _).trans (((cell_far (p := ⟨aa, _, none⟩) ac.out _).trans (((cell_far (p := ⟨aa, _, none⟩) ac.out _).trans (((cell_far (p := ⟨aa, _, none⟩) ac.out _).trans (((cell_far (p := ⟨aa, _, none⟩) ac.out _).trans (((cell_far (p := ⟨aa, _, none⟩) ac.out _).trans (((cell_far (p := ⟨aa, _, none⟩) ac.out _).trans (((cell_far (p := ⟨aa, _, none⟩) ac.out _).trans (((cell_far (p := ⟨aa, _, none⟩) ac.out _).trans (((cell_far (p := ⟨aa, _, none⟩) ac.out _).trans (hHeld.2.1)))))))))))))))))))))))), ((cell_far (p := ⟨aa, _, none⟩) ab.out _).trans (((cell_far (p := ⟨aa, _, none⟩) ab.out _).trans (((cell_far (p := ⟨aa, _, none⟩) ab.out _).trans (((cell_far (p := ⟨aa, _, none⟩) ab.out _).trans (((cell_far (p := ⟨aa, _, none⟩) ab.out _).trans (((cell_far (p := ⟨aa, _, none⟩) ab.out _).trans (((cell_far (p := ⟨aa, _, none⟩) ab.out _).trans (((cell_far (p := ⟨aa, _, none⟩) ab.out _).trans (((cell_far (p := ⟨aa, _, none⟩) ab.out _).trans (((cell_far (p := ⟨aa, _, none⟩) ab.out _).trans (((cell_far (p := ⟨aa, _, none⟩) ab.out _).trans (((cell_far (p := ⟨aa, _, none⟩) ab.out _).trans (hHeld.2.2.1)))))))))))))))))))))))), ((cell_far (p := ⟨aa, _, none⟩) ab.out _).trans (((cell_far (p := ⟨aa, _, none⟩) ab.out _).trans (((cell_far (p := ⟨aa, _, none⟩) ab.out _).trans (((cell_far (p := ⟨aa, _, none⟩) ab.out _).trans (((cell_far (p := ⟨aa, _, none⟩) ab.out _).trans (((cell_far (p := ⟨aa, _, none⟩) ab.out _).trans (((cell_far (p := ⟨aa, _, none⟩) ab.out _).trans (((cell_far (p := ⟨aa, _, none⟩) ab.out _).trans (((cell_far (p := ⟨aa, _, none⟩) ab.out _).trans (((cell_far (p := ⟨aa, _, none⟩) ab.out _).trans (((cell_far (p := ⟨aa, _, none⟩) ab.out _).trans (((cell_far (p := ⟨aa, _, none⟩) ab.out _).trans (hHeld.2.2.2))))))))))))))))))))))))⟩ (fun hHeld => ?_)
    clear hK K
    refine done_ (done_of HT_.out (by kernel_rfl)) ?_
    have c3 := ai.out
    have cx := ac.out
    have c0 := aj.out
    have c7 := ab.out
    have bJ : w17.cell? ⟨aa, 0, none⟩ = some (.int .u64 0) := (zH ah.out 0).trans rfl
    have ax : w17.cell? ⟨aa, 1, none⟩ = some (.int .u64 0) := (zH ah.out 1).trans rfl
    have bU : w17.cell? ⟨aa, 2, none⟩ = some (.int .u64 0) := (zH ah.out 2).trans rfl
    have bH : w17.cell? ⟨aa, 3, none⟩ = some (.int .u64 0) := (zH ah.out 3).trans rfl
    have b0 : w17.cell? ⟨aa, 4, none⟩ = some (.int .u64 0) := (zH ah.out 4).trans rfl
    have bb : w17.cell? ⟨aa, 5, none⟩ = some (.int .u64 0) := (zH ah.out 5).trans rfl
    have bt : w17.cell? ⟨aa, 6, none⟩ = some (.int .u64 0) := (zH ah.out 6).trans rfl
    have cf : w17.cell? ⟨aa, 7, none⟩ = some (.int .u64 0) := (zH ah.out 7).trans rfl
    have aZ : w17.cell? ⟨aa, 8, none⟩ = some (.int .u64 0) := (zH ah.out 8).trans rfl
    have bv : w17.cell? ⟨aa, 9, none⟩ = some (.int .u64 0) := (zH ah.out 9).trans rfl
    have aF : w17.cell? ⟨aa, 10, none⟩ = some (.int .u64 0) := (zH ah.out 10).trans rfl
    have aB : w17.cell? ⟨aa, 11, none⟩ = some (.int .u64 0) := (zH ah.out 11).trans rfl
    have bM := blk_frozen ah.out 0
    have a4 := blk_frozen ah.out 1
    have bA := blk_frozen ah.out 2
    have bc := blk_frozen ah.out 3
    have cv := blk_frozen ah.out 4
    have bn := blk_frozen ah.out 5
    have bo := blk_frozen ah.out 6
    have be := blk_frozen ah.out 7
    have b9 := blk_frozen ah.out 8
    have bO := blk_frozen ah.out 9
    have aC := blk_frozen ah.out 10
    have aG := blk_frozen ah.out 11
    try go_wp2_with (first | ((with_reducible refine gate_callee (f := 39) rfl ?_); refine goesL_ (some 13) rfl rfl Try.func39 (by kernel_rfl) rfl #[.agg #[.int .u64 t193, .int .u64 t194, .int .u64 t195, .int .u64 t196, .int .u64 t197, .int .u64 t198, .int .u64 t199, .int .u64 t200, .int .u64 t201, .int .u64 t202, .int .u64 t203, .int .u64 t204]] rfl (by (try simp only [List.map_toArray, List.map_cons, List.map_nil]); first | done | rfl | (simp only [List.length_drop, List.length_take]; rfl)) ?_; (with_reducible refine (Ref01.IsBelow.calls t193 t194 t195 t196 t197 t198 t199 t200 t201 t202 t203 t204 true _ A7.out).mono ?_); rintro e w33 ⟨rfl, hb⟩; refine ⟨_, rfl, ?_⟩; have n0_ := zK (zL (g := ae) (o := .cells #[.int .i64 a0_0, .int .u64 a0_1] 26 (0, 0)) (by (with_reducible repeat (first | refine zA ?_ _ | refine zC ?_ | refine zB ?_ _)); refine blk_far ?_ ac.out _; (with_reducible repeat (first | refine zA ?_ _ | refine zC ?_ | refine zB ?_ _)); refine blk_far ?_ ac.out _; (with_reducible repeat (first | refine zA ?_ _ | refine zC ?_ | refine zB ?_ _)); refine blk_far ?_ ac.out _; (with_reducible repeat (first | refine zA ?_ _ | refine zC ?_ | refine zB ?_ _)); refine blk_far ?_ ac.out _; (with_reducible repeat (first | refine zA ?_ _ | refine zC ?_ | refine zB ?_ _)); refine blk_far ?_ ac.out _; (with_reducible repeat (first | refine zA ?_ _ | refine zC ?_ | refine zB ?_ _)); refine blk_far ?_ ac.out _; (with_reducible repeat (first | refine zA ?_ _ | refine zC ?_ | refine zB ?_ _)); refine blk_far ?_ ac.out _; (with_reducible repeat (first | refine zA ?_ _ | refine zC ?_ | refine zB ?_ _)); refine blk_far ?_ ac.out _; (with_reducible repeat (first | refine zA ?_ _ | refine zC ?_ | refine zB ?_ _)); refine blk_far ?_ ac.out _; (with_reducible repeat (first | refine zA ?_ _ | refine zC ?_ | refine zB ?_ _)); refine blk_far ?_ ac.out _; (with_reducible repeat (first | refine zA ?_ _ | refine zC ?_ | refine zB ?_ _)); refine blk_far ?_ ac.out _; (with_reducible repeat (first | refine zA ?_ _ | refine zC ?_ | refine zB ?_ _)); refine blk_far ?_ ac.out _; (with_reducible repeat (first | refine zA ?_ _ | refine zC ?_ | refine zB ?_ _)); exact ad.out) hb); have n1_ := zK (zL (g := ag) (o := .cells #[.int .i64 a1_0, .int .u64 a1_1] 26 (0, 0)) (by (with_reducible repeat (first | refine zA ?_ _ | refine zC ?_ | refine zB ?_ _)); refine blk_far ?_ ab.out _; (with_reducible repeat (first | refine zA ?_ _ | refine zC ?_ | refine zB ?_ _)); refine blk_far ?_ ab.out _; (with_reducible repeat (first | refine zA ?_ _ | refine zC ?_ | refine zB ?_ _)); refine blk_far ?_ ab.out _; (with_reducible repeat (first | refine zA ?_ _ | refine zC ?_ | refine zB ?_ _)); refine blk_far ?_ ab.out _; (with_reducible repeat (first | refine zA ?_ _ | refine zC ?_ | refine zB ?_ _)); refine blk_far ?_ ab.out _; (with_reducible repeat (first | refine zA ?_ _ | refine zC ?_ | refine zB ?_ _)); refine blk_far ?_ ab.out _; (with_reducible repeat (first | refine zA ?_ _ | refine zC ?_ | refine zB ?_ _)); refine blk_far ?_ ab.out _; (with_reducible repeat (first | refine zA ?_ _ | refine zC ?_ | refine zB ?_ _)); refine blk_far ?_ ab.out _; (with_reducible repeat (first | refine zA ?_ _ | refine zC ?_ | refine zB ?_ _)); refine blk_far ?_ ab.out _; (with_reducible repeat (first | refine zA ?_ _ | refine zC ?_ | refine zB ?_ _)); refine blk_far ?_ ab.out _; (with_reducible repeat (first | refine zA ?_ _ | refine zC ?_ | refine zB ?_ _)); refine blk_far ?_ ab.out _; (with_reducible repeat (first | refine zA ?_ _ | refine zC ?_ | refine zB ?_ _)); refine blk_far ?_ ab.out _; (with_reducible repeat (first | refine zA ?_ _ | refine zC ?_ | refine zB ?_ _)); exact af.out) hb); have n2_ := zK (zL (g := aa) (o := .cells #[.int .u64 t193, .int .u64 t194, .int .u64 t195, .int .u64 t196, .int .u64 t197, .int .u64 t198, .int .u64 t199, .int .u64 t200, .int .u64 t201, .int .u64 t202, .int .u64 t203, .int .u64 t204] 54 (0, 0)) (by (with_reducible repeat (first | refine zA ?_ _ | refine zC ?_ | refine zB ?_ _)); refine blk_put (cs := #[.int .u64 t193, .int .u64 t194, .int .u64 t195, .int .u64 t196, .int .u64 t197, .int .u64 t198, .int .u64 t199, .int .u64 t200, .int .u64 t201, .int .u64 t202, .int .u64 t203, .int .u64 0]) ?_ 11 _ rfl; (with_reducible repeat (first | refine zA ?_ _ | refine zC ?_ | refine zB ?_ _)); refine blk_put (cs := #[.int .u64 t193, .int .u64 t194, .int .u64 t195, .int .u64 t196, .int .u64 t197, .int .u64 t198, .int .u64 t199, .int .u64 t200, .int .u64 t201, .int .u64 t202, .int .u64 0, .int .u64 0]) ?_ 10 _ rfl; (with_reducible repeat (first | refine zA ?_ _ | refine zC ?_ | refine zB ?_ _)); refine blk_put (cs := #[.int .u64 t193, .int .u64 t194, .int .u64 t195, .int .u64 t196, .int .u64 t197, .int .u64 t198, .int .u64 t199, .int .u64 t200, .int .u64 t201, .int .u64 0, .int .u64 0, .int .u64 0]) ?_ 9 _ rfl; (with_reducible repeat (first | refine zA ?_ _ | refine zC ?_ | refine zB ?_ _)); refine blk_put (cs := #[.int .u64 t193, .int .u64 t194, .int .u64 t195, .int .u64 t196, .int .u64 t197, .int .u64 t198, .int .u64 t199, .int .u64 t200, .int .u64 0, .int .u64 0, .int .u64 0, .int .u64 0]) ?_ 8 _ rfl; (with_reducible repeat (first | refine zA ?_ _ | refine zC ?_ | refine zB ?_ _)); refine blk_put (cs := #[.int .u64 t193, .int .u64 t194, .int .u64 t195, .int .u64 t196, .int .u64 t197, .int .u64 t198, .int .u64 t199, .int .u64 0, .int .u64 0, .int .u64 0, .int .u64 0, .int .u64 0]) ?_ 7 _ rfl; (with_reducible repeat (first | refine zA ?_ _ | refine zC ?_ | refine zB ?_ _)); refine blk_put (cs := #[.int .u64 t193, .int .u64 t194, .int .u64 t195, .int .u64 t196, .int .u64 t197, .int .u64 t198, .int .u64 0, .int .u64 0, .int .u64 0, .int .u64 0, .int .u64 0, .int .u64 0]) ?_ 6 _ rfl; (with_reducible repeat (first | refine zA ?_ _ | refine zC ?_ | refine zB ?_ _)); refine blk_put (cs := #[.int .u64 t193, .int .u64 t194, .int .u64 t195, .int .u64 t196, .int .u64 t197, .int .u64 0, .int .u64 0, .int .u64 0, .int .u64 0, .int .u64 0, .int .u64 0, .int .u64 0]) ?_ 5 _ rfl; (with_reducible repeat (first | refine zA ?_ _ | refine zC ?_ | refine zB ?_ _)); refine blk_put (cs := #[.int .u64 t193, .int .u64 t194, .int .u64 t195, .int .u64 t196, .int .u64 0, .int .u64 0, .int .u64 0, .int .u64 0, .int .u64 0, .int .u64 0, .int .u64 0, .int .u64 0]) ?_ 4 _ rfl; (with_reducible repeat (first | refine zA ?_ _ | refine zC ?_ | refine zB ?_ _)); refine blk_put (cs := #[.int .u64 t193, .int .u64 t194, .int .u64 t195, .int .u64 0, .int .u64 0, .int .u64 0, .int .u64 0, .int .u64 0, .int .u64 0, .int .u64 0, .int .u64 0, .int .u64 0]) ?_ 3 _ rfl; (with_reducible repeat (first | refine zA ?_ _ | refine zC ?_ | refine zB ?_ _)); refine blk_put (cs := #[.int .u64 t193, .int .u64 t194, .int .u64 0, .int .u64 0, .int .u64 0, .int .u64 0, .int .u64 0, .int .u64 0, .int .u64 0, .int .u64 0, .int .u64 0, .int .u64 0]) ?_ 2 _ rfl; (with_reducible repeat (first | refine zA ?_ _ | refine zC ?_ | refine zB ?_ _)); refine blk_put (cs := #[.int .u64 t193, .int .u64 0, .int .u64 0, .int .u64 0, .int .u64 0, .int .u64 0, .int .u64 0, .int .u64 0, .int .u64 0, .int .u64 0, .int .u64 0, .int .u64 0]) ?_ 1 _ rfl; (with_reducible repeat (first | refine zA ?_ _ | refine zC ?_ | refine zB ?_ _)); refine blk_put (cs := #[.int .u64 0, .int .u64 0, .int .u64 0, .int .u64 0, .int .u64 0, .int .u64 0, .int .u64 0, .int .u64 0, .int .u64 0, .int .u64 0, .int .u64 0, .int .u64 0]) ?_ 0 _ rfl; (with_reducible repeat (first | refine zA ?_ _ | refine zC ?_ | refine zB ?_ _)); exact ah.out) hb); have n3_ := zK (zI (by repeat (first | (with_reducible first | exact HB.out | apply zG | apply zE | apply zF | refine zD ?_ ak.out | refine zD ?_ am.out | refine zD ?_ ao.out) | exact HB.out)) hb); clear ad; clear af; clear ah; clear HB; have ad := n0_; have af := n1_; have ah := n2_; have HB := n3_; clear n0_ n1_ n2_ n3_; (try clear hb); (try clear hb2); (try clear hk); (try clear hi)))
    go_ret
    exact ⟨by first | rfl | (simp [errW_none, errW_some] <;> rfl) | (simp [*, errW_none, errW_some] <;> rfl), by repeat (first | (with_reducible first | exact HB.out | apply zG | apply zE | apply zF | refine zD ?_ ak.out | refine zD ?_ am.out | refine zD ?_ ao.out) | exact HB.out)⟩
  · replace c8 := Bool.eq_false_iff.mpr c8
    subst c8
    have H1 : (if (t193 == 0 && (t194 == 0 && (t195 == 0 && (t196 == 0 && (t197 == 0 && (t198 == 0 && (t199 == 0 && (t200 == 0 && (t201 == 0 && (t202 == 0 && (t203 == 0 && (t204 == 0)))))))))))) = true then (some 0) else (some 1)) = some r := by rw [if_neg (show ¬ (false = true) by decide)] at H; exact H
    clear H
    have H := H1
    clear H1
    by_cases c34 : (t193 == 0 && (t194 == 0 && (t195 == 0 && (t196 == 0 && (t197 == 0 && (t198 == 0 && (t199 == 0 && (t200 == 0 && (t201 == 0 && (t202 == 0 && (t203 == 0 && (t204 == 0)))))))))))) = true
    · rw [if_pos c34] at H
      have c34b0 : (t193 == 0 && (t194 == 0 && (t195 == 0 && (t196 == 0 && (t197 == 0 && (t198 == 0 && (t199 == 0 && (t200 == 0 && (t201 == 0 && (t202 == 0 && (t203 == 0 && (t204 == 0)))))))))))) = true := c34
      (try (have c34b1 : decide (t193 = 0 && (t194 == 0 && (t195 == 0 && (t196 == 0 && (t197 == 0 && (t198 == 0 && (t199 == 0 && (t200 == 0 && (t201 == 0 && (t202 == 0 && (t203 == 0 && (t204 == 0)))))))))))) = true := by simpa using c34))
      (try (have c34b2 : (t193 == 0 && (t194 == 0 && (t195 == 0 && (t196 == 0 && (t197 == 0 && (t198 == 0 && (t199 == 0 && (t200 == 0 && (t201 == 0 && (t202 == 0 && (t203 == 0 && (t204 == 0)))))))))))) = true := by simpa using c34))
      clear c34
      obtain rfl := Option.some.inj H
      go_enter Try.func26, Try.ntmps26
      try go_wp2_with (first | ((with_reducible refine gate_dst (N := 2) rfl ?_); refine box_event ?hg (N := 2) ?hd (cs := #[.int .i64 a0_0, .int .u64 a0_1]) (t := 26) ?hr ?_; (case hd => rfl); (case hg => rfl); (case hr => first | (go_simp; done) | (go_simp; rfl)); intro ae hg w35 hbox hb; have n0_ := zK (zI (by repeat (first | (with_reducible first | exact HB.out | apply zG | apply zE | apply zF) | exact HB.out)) hb); have n1_ := zK (hbox); have n2_ := zK ((by rw [hg]; exact (zJ (by repeat (first | (with_reducible first | exact HB.out | apply zG | apply zE | apply zF) | exact HB.out))) : w.heap.size ≤ ae)); have n3_ := zK ((by rw [hg]; exact (zJ (by repeat (first | (with_reducible first | exact HB.out | apply zG | apply zE | apply zF) | exact HB.out))) : w.heap.size ≤ ae)); clear HB; have HB := n0_; have ad := n1_; have a7 := n2_; have ak := n3_; clear n0_ n1_ n2_ n3_; clear hb hbox hg) | ((with_reducible refine gate_dst (N := 3) rfl ?_); refine box_event ?hg (N := 3) ?hd (cs := #[.int .i64 a1_0, .int .u64 a1_1]) (t := 26) ?hr ?_; (case hd => rfl); (case hg => rfl); (case hr => first | (go_simp; done) | (go_simp; rfl)); intro ag hg w36 hbox hb; have n0_ := zK (zL (g := ae) (o := .cells #[.int .i64 a0_0, .int .u64 a0_1] 26 (0, 0)) (by (with_reducible repeat (first | refine zA ?_ _ | refine zC ?_ | refine zB ?_ _)); exact ad.out) hb); have n1_ := zK (zI (by repeat (first | (with_reducible first | exact HB.out | apply zG | apply zE | apply zF | refine zD ?_ ak.out) | exact HB.out)) hb); have n2_ := zK (hbox); have n3_ := zK ((by rw [hg]; exact (zJ (by repeat (first | (with_reducible first | exact HB.out | apply zG | apply zE | apply zF | refine zD ?_ ak.out) | exact HB.out))) : w.heap.size ≤ ag)); have n4_ := zK ((by rw [hg]; exact (zJ (by repeat (first | (with_reducible first | exact HB.out | apply zG | apply zE | apply zF | refine zD ?_ ak.out) | exact HB.out))) : w.heap.size ≤ ag)); have n5_ := zK ((by rw [hg]; exact Nat.ne_of_lt (blk_lt (g := ae) (o := .cells #[.int .i64 a0_0, .int .u64 a0_1] 26 (0, 0)) (by (with_reducible repeat (first | refine zA ?_ _ | refine zC ?_ | refine zB ?_ _)); exact ad.out)) : ae ≠ ag)); have n6_ := zK ((by rw [hg]; exact Nat.ne_of_gt (blk_lt (g := ae) (o := .cells #[.int .i64 a0_0, .int .u64 a0_1] 26 (0, 0)) (by (with_reducible repeat (first | refine zA ?_ _ | refine zC ?_ | refine zB ?_ _)); exact ad.out)) : ag ≠ ae)); clear ad; clear HB; have ad := n0_; have HB := n1_; have af := n2_; have a8 := n3_; have am := n4_; have aw := n5_; have av := n6_; clear n0_ n1_ n2_ n3_ n4_ n5_ n6_; clear hb hbox hg))
      have n0_ := zK (zC ad.out)
      have n1_ := zK (zC af.out)
      have n2_ := zK (zF HB.out)
      clear ad
      clear af
      clear HB
      have ad := n0_
      have af := n1_
      have HB := n2_
      clear n0_ n1_ n2_
      refine start_ (n := 8) (S := fun w' => w'.cell? ⟨ae, 0, none⟩ = some (.int .i64 a0_0) ∧ w'.cell? ⟨ae, 1, none⟩ = some (.int .u64 a0_1) ∧ w'.cell? ⟨ag, 0, none⟩ = some (.int .i64 a1_0) ∧ w'.cell? ⟨ag, 1, none⟩ = some (.int .u64 a1_1)) (ds := []) #[false, false, false, false, false, false, false, false] (by kernel_rfl) rfl rfl ⟨(zH ad.out 0).trans rfl, (zH ad.out 1).trans rfl, (zH af.out 0).trans rfl, (zH af.out 1).trans rfl⟩ (fun hHeld => ?_); refine with_tabW octroiref01_Cmp.tab1 octroiref01_Cmp.bits1 (fun HT_ HW_ => ?_)
      generalize w36.drew = w37 at ad af HB hHeld ⊢
      refine take_ (i := 0) (N := some 6) (v := ?_) (a' := ?_) #[true, false, false, false, false, false, false, false] rfl rfl (take_ofW HT_.out HW_.out (by kernel_rfl)) (fun _ _ _ h => h) (Or.inl ⟨by rfl, ?_⟩) hHeld ?_ ?_
      rotate_left
      · rintro w' ⟨s0, s1, s2, s3⟩
        go_simp
        with_reducible rfl
      rotate_left
      · simp only [Act.put, List.setIfInBounds_toArray, List.set_cons_zero, List.set_cons_succ, i64_w, i32_w]
        rfl
      refine take_ (i := 2) (N := some 8) (v := ?_) (a' := ?_) #[true, false, true, false, false, false, false, false] rfl rfl (take_ofW HT_.out HW_.out (by kernel_rfl)) (fun _ _ _ h => h) (Or.inl ⟨by rfl, ?_⟩) hHeld ?_ ?_
      rotate_left
      · rintro w' ⟨s0, s1, s2, s3⟩
        go_simp
        with_reducible rfl
      rotate_left
      · simp only [Act.put, List.setIfInBounds_toArray, List.set_cons_zero, List.set_cons_succ, i64_w, i32_w]
        rfl
      refine join_ (σ := Nat) 1 #[true, true, true, true, true, true, true, false] (fun s_ => [(7, .agg #[.int .u64 t157, .int .u64 t158, .int .u64 t159, .int .u64 t160, .int .u64 t161, .int .u64 t162, .int .u64 t163, .int .u64 t164, .int .u64 t165, .int .u64 t166, .int .u64 t167, .int .u64 t168]), (9, .agg #[.int .u64 t169, .int .u64 t170, .int .u64 t171, .int .u64 t172, .int .u64 t173, .int .u64 t174, .int .u64 t175, .int .u64 t176, .int .u64 t177, .int .u64 t178, .int .u64 t179, .int .u64 t180]), (10, .agg #[.int .u64 t181, .int .u64 t182, .int .u64 t183, .int .u64 t184, .int .u64 t185, .int .u64 t186, .int .u64 t187, .int .u64 t188, .int .u64 t189, .int .u64 t190, .int .u64 t191, .int .u64 t192]), (11, .agg #[.int .u64 t193, .int .u64 t194, .int .u64 t195, .int .u64 t196, .int .u64 t197, .int .u64 t198, .int .u64 t199, .int .u64 t200, .int .u64 t201, .int .u64 t202, .int .u64 t203, .int .u64 t204]), (5, .pointer (some ⟨s_, 0, none⟩))]) (fun s_ w' => (w'.cell? ⟨ae, 0, none⟩ = some (.int .i64 a0_0) ∧ w'.cell? ⟨ae, 1, none⟩ = some (.int .u64 a0_1) ∧ w'.cell? ⟨ag, 0, none⟩ = some (.int .i64 a1_0) ∧ w'.cell? ⟨ag, 1, none⟩ = some (.int .u64 a1_1)) ∧ (w'.heap[ae]? = some (.cells #[.int .i64 a0_0, .int .u64 a0_1] 26 (0, 0))) ∧ (w'.heap[ag]? = some (.cells #[.int .i64 a1_0, .int .u64 a1_1] 26 (0, 0))) ∧ (w'.heap[s_]? = some (.cells #[.int .u64 0, .int .u64 0, .int .u64 0, .int .u64 0, .int .u64 0, .int .u64 0, .int .u64 0, .int .u64 0, .int .u64 0, .int .u64 0, .int .u64 0, .int .u64 0] 54 (0, 0))) ∧ (w.heap.size ≤ s_) ∧ (w.heap.size ≤ s_) ∧ (ae ≠ s_) ∧ (s_ ≠ ae) ∧ (ag ≠ s_) ∧ (s_ ≠ ag) ∧ (Below w.heap.size w w')) ?_ ?_
      rotate_left
      · intro hJ1_3_4_5_6
        refine join_ (σ := Unit) 2 #[true, true, true, true, true, true, false, false] (fun s_ => [(7, .agg #[.int .u64 t157, .int .u64 t158, .int .u64 t159, .int .u64 t160, .int .u64 t161, .int .u64 t162, .int .u64 t163, .int .u64 t164, .int .u64 t165, .int .u64 t166, .int .u64 t167, .int .u64 t168]), (9, .agg #[.int .u64 t169, .int .u64 t170, .int .u64 t171, .int .u64 t172, .int .u64 t173, .int .u64 t174, .int .u64 t175, .int .u64 t176, .int .u64 t177, .int .u64 t178, .int .u64 t179, .int .u64 t180]), (10, .agg #[.int .u64 t181, .int .u64 t182, .int .u64 t183, .int .u64 t184, .int .u64 t185, .int .u64 t186, .int .u64 t187, .int .u64 t188, .int .u64 t189, .int .u64 t190, .int .u64 t191, .int .u64 t192]), (11, .agg #[.int .u64 t193, .int .u64 t194, .int .u64 t195, .int .u64 t196, .int .u64 t197, .int .u64 t198, .int .u64 t199, .int .u64 t200, .int .u64 t201, .int .u64 t202, .int .u64 t203, .int .u64 t204])]) (fun s_ w' => (w'.cell? ⟨ae, 0, none⟩ = some (.int .i64 a0_0) ∧ w'.cell? ⟨ae, 1, none⟩ = some (.int .u64 a0_1) ∧ w'.cell? ⟨ag, 0, none⟩ = some (.int .i64 a1_0) ∧ w'.cell? ⟨ag, 1, none⟩ = some (.int .u64 a1_1)) ∧ (w'.heap[ae]? = some (.cells #[.int .i64 a0_0, .int .u64 a0_1] 26 (0, 0))) ∧ (w'.heap[ag]? = some (.cells #[.int .i64 a1_0, .int .u64 a1_1] 26 (0, 0))) ∧ (Below w.heap.size w w')) ?_ ?_
        rotate_left
        · intro hJ1_3_4_5
          refine join_ (σ := Nat) 2 #[true, true, true, true, true, false, true, false] (fun s_ => [(7, .agg #[.int .u64 t157, .int .u64 t158, .int .u64 t159, .int .u64 t160, .int .u64 t161, .int .u64 t162, .int .u64 t163, .int .u64 t164, .int .u64 t165, .int .u64 t166, .int .u64 t167, .int .u64 t168]), (9, .agg #[.int .u64 t169, .int .u64 t170, .int .u64 t171, .int .u64 t172, .int .u64 t173, .int .u64 t174, .int .u64 t175, .int .u64 t176, .int .u64 t177, .int .u64 t178, .int .u64 t179, .int .u64 t180]), (10, .agg #[.int .u64 t181, .int .u64 t182, .int .u64 t183, .int .u64 t184, .int .u64 t185, .int .u64 t186, .int .u64 t187, .int .u64 t188, .int .u64 t189, .int .u64 t190, .int .u64 t191, .int .u64 t192]), (5, .pointer (some ⟨s_, 0, none⟩))]) (fun s_ w' => (w'.cell? ⟨ae, 0, none⟩ = some (.int .i64 a0_0) ∧ w'.cell? ⟨ae, 1, none⟩ = some (.int .u64 a0_1) ∧ w'.cell? ⟨ag, 0, none⟩ = some (.int .i64 a1_0) ∧ w'.cell? ⟨ag, 1, none⟩ = some (.int .u64 a1_1)) ∧ (w'.heap[ae]? = some (.cells #[.int .i64 a0_0, .int .u64 a0_1] 26 (0, 0))) ∧ (w'.heap[ag]? = some (.cells #[.int .i64 a1_0, .int .u64 a1_1] 26 (0, 0))) ∧ (w'.heap[s_]? = some (.cells #[.int .u64 0, .int .u64 0, .int .u64 0, .int .u64 0, .int .u64 0, .int .u64 0, .int .u64 0, .int .u64 0, .int .u64 0, .int .u64 0, .int .u64 0, .int .u64 0] 54 (0, 0))) ∧ (w.heap.size ≤ s_) ∧ (w.heap.size ≤ s_) ∧ (ae ≠ s_) ∧ (s_ ≠ ae) ∧ (ag ≠ s_) ∧ (s_ ≠ ag) ∧ (Below w.heap.size w w')) ?_ ?_
          rotate_left
          · intro hJ1_3_4_6
            refine join_ (σ := Unit) 3 #[true, true, true, true, true, false, false, false] (fun s_ => [(7, .agg #[.int .u64 t157, .int .u64 t158, .int .u64 t159, .int .u64 t160, .int .u64 t161, .int .u64 t162, .int .u64 t163, .int .u64 t164, .int .u64 t165, .int .u64 t166, .int .u64 t167, .int .u64 t168]), (9, .agg #[.int .u64 t169, .int .u64 t170, .int .u64 t171, .int .u64 t172, .int .u64 t173, .int .u64 t174, .int .u64 t175, .int .u64 t176, .int .u64 t177, .int .u64 t178, .int .u64 t179, .int .u64 t180]), (10, .agg #[.int .u64 t181, .int .u64 t182, .int .u64 t183, .int .u64 t184, .int .u64 t185, .int .u64 t186, .int .u64 t187, .int .u64 t188, .int .u64 t189, .int .u64 t190, .int .u64 t191, .int .u64 t192])]) (fun s_ w' => (w'.cell? ⟨ae, 0, none⟩ = some (.int .i64 a0_0) ∧ w'.cell? ⟨ae, 1, none⟩ = some (.int .u64 a0_1) ∧ w'.cell? ⟨ag, 0, none⟩ = some (.int .i64 a1_0) ∧ w'.cell? ⟨ag, 1, none⟩ = some (.int .u64 a1_1)) ∧ (w'.heap[ae]? = some (.cells #[.int .i64 a0_0, .int .u64 a0_1] 26 (0, 0))) ∧ (w'.heap[ag]? = some (.cells #[.int .i64 a1_0, .int .u64 a1_1] 26 (0, 0))) ∧ (Below w.heap.size w w')) ?_ ?_
            rotate_left
            · intro hJ1_3_4
              refine join_ (σ := Nat) 3 #[true, true, true, true, false, false, true, false] (fun s_ => [(7, .agg #[.int .u64 t157, .int .u64 t158, .int .u64 t159, .int .u64 t160, .int .u64 t161, .int .u64 t162, .int .u64 t163, .int .u64 t164, .int .u64 t165, .int .u64 t166, .int .u64 t167, .int .u64 t168]), (9, .agg #[.int .u64 t169, .int .u64 t170, .int .u64 t171, .int .u64 t172, .int .u64 t173, .int .u64 t174, .int .u64 t175, .int .u64 t176, .int .u64 t177, .int .u64 t178, .int .u64 t179, .int .u64 t180]), (5, .pointer (some ⟨s_, 0, none⟩))]) (fun s_ w' => (w'.cell? ⟨ae, 0, none⟩ = some (.int .i64 a0_0) ∧ w'.cell? ⟨ae, 1, none⟩ = some (.int .u64 a0_1) ∧ w'.cell? ⟨ag, 0, none⟩ = some (.int .i64 a1_0) ∧ w'.cell? ⟨ag, 1, none⟩ = some (.int .u64 a1_1)) ∧ (w'.heap[ae]? = some (.cells #[.int .i64 a0_0, .int .u64 a0_1] 26 (0, 0))) ∧ (w'.heap[ag]? = some (.cells #[.int .i64 a1_0, .int .u64 a1_1] 26 (0, 0))) ∧ (w'.heap[s_]? = some (.cells #[.int .u64 0, .int .u64 0, .int .u64 0, .int .u64 0, .int .u64 0, .int .u64 0, .int .u64 0, .int .u64 0, .int .u64 0, .int .u64 0, .int .u64 0, .int .u64 0] 54 (0, 0))) ∧ (w.heap.size ≤ s_) ∧ (w.heap.size ≤ s_) ∧ (ae ≠ s_) ∧ (s_ ≠ ae) ∧ (ag ≠ s_) ∧ (s_ ≠ ag) ∧ (Below w.heap.size w w')) ?_ ?_
              rotate_left
              · intro hJ1_3_6
                refine join_ (σ := Unit) 4 #[true, true, true, true, false, false, false, false] (fun s_ => [(7, .agg #[.int .u64 t157, .int .u64 t158, .int .u64 t159, .int .u64 t160, .int .u64 t161, .int .u64 t162, .int .u64 t163, .int .u64 t164, .int .u64 t165, .int .u64 t166, .int .u64 t167, .int .u64 t168]), (9, .agg #[.int .u64 t169, .int .u64 t170, .int .u64 t171, .int .u64 t172, .int .u64 t173, .int .u64 t174, .int .u64 t175, .int .u64 t176, .int .u64 t177, .int .u64 t178, .int .u64 t179, .int .u64 t180])]) (fun s_ w' => (w'.cell? ⟨ae, 0, none⟩ = some (.int .i64 a0_0) ∧ w'.cell? ⟨ae, 1, none⟩ = some (.int .u64 a0_1) ∧ w'.cell? ⟨ag, 0, none⟩ = some (.int .i64 a1_0) ∧ w'.cell? ⟨ag, 1, none⟩ = some (.int .u64 a1_1)) ∧ (w'.heap[ae]? = some (.cells #[.int .i64 a0_0, .int .u64 a0_1] 26 (0, 0))) ∧ (w'.heap[ag]? = some (.cells #[.int .i64 a1_0, .int .u64 a1_1] 26 (0, 0))) ∧ (Below w.heap.size w w')) ?_ ?_
                rotate_left
                · intro hJ1_3
                  refine join_ (σ := Nat) 4 #[true, true, true, false, false, false, true, false] (fun s_ => [(7, .agg #[.int .u64 t157, .int .u64 t158, .int .u64 t159, .int .u64 t160, .int .u64 t161, .int .u64 t162, .int .u64 t163, .int .u64 t164, .int .u64 t165, .int .u64 t166, .int .u64 t167, .int .u64 t168]), (5, .pointer (some ⟨s_, 0, none⟩))]) (fun s_ w' => (w'.cell? ⟨ae, 0, none⟩ = some (.int .i64 a0_0) ∧ w'.cell? ⟨ae, 1, none⟩ = some (.int .u64 a0_1) ∧ w'.cell? ⟨ag, 0, none⟩ = some (.int .i64 a1_0) ∧ w'.cell? ⟨ag, 1, none⟩ = some (.int .u64 a1_1)) ∧ (w'.heap[ae]? = some (.cells #[.int .i64 a0_0, .int .u64 a0_1] 26 (0, 0))) ∧ (w'.heap[ag]? = some (.cells #[.int .i64 a1_0, .int .u64 a1_1] 26 (0, 0))) ∧ (w'.heap[s_]? = some (.cells #[.int .u64 0, .int .u64 0, .int .u64 0, .int .u64 0, .int .u64 0, .int .u64 0, .int .u64 0, .int .u64 0, .int .u64 0, .int .u64 0, .int .u64 0, .int .u64 0] 54 (0, 0))) ∧ (w.heap.size ≤ s_) ∧ (w.heap.size ≤ s_) ∧ (ae ≠ s_) ∧ (s_ ≠ ae) ∧ (ag ≠ s_) ∧ (s_ ≠ ag) ∧ (Below w.heap.size w w')) ?_ ?_
                  rotate_left
                  · intro hJ1_6
                    refine join_ (σ := Unit) 5 #[true, true, true, false, false, false, false, false] (fun s_ => [(7, .agg #[.int .u64 t157, .int .u64 t158, .int .u64 t159, .int .u64 t160, .int .u64 t161, .int .u64 t162, .int .u64 t163, .int .u64 t164, .int .u64 t165, .int .u64 t166, .int .u64 t167, .int .u64 t168])]) (fun s_ w' => (w'.cell? ⟨ae, 0, none⟩ = some (.int .i64 a0_0) ∧ w'.cell? ⟨ae, 1, none⟩ = some (.int .u64 a0_1) ∧ w'.cell? ⟨ag, 0, none⟩ = some (.int .i64 a1_0) ∧ w'.cell? ⟨ag, 1, none⟩ = some (.int .u64 a1_1)) ∧ (w'.heap[ae]? = some (.cells #[.int .i64 a0_0, .int .u64 a0_1] 26 (0, 0))) ∧ (w'.heap[ag]? = some (.cells #[.int .i64 a1_0, .int .u64 a1_1] 26 (0, 0))) ∧ (Below w.heap.size w w')) ?_ ?_
                    rotate_left
                    · intro hJ1
                      refine join_ (σ := Nat) 5 #[true, false, true, false, false, false, true, false] (fun s_ => [(5, .pointer (some ⟨s_, 0, none⟩))]) (fun s_ w' => (w'.cell? ⟨ae, 0, none⟩ = some (.int .i64 a0_0) ∧ w'.cell? ⟨ae, 1, none⟩ = some (.int .u64 a0_1) ∧ w'.cell? ⟨ag, 0, none⟩ = some (.int .i64 a1_0) ∧ w'.cell? ⟨ag, 1, none⟩ = some (.int .u64 a1_1)) ∧ (w'.heap[ae]? = some (.cells #[.int .i64 a0_0, .int .u64 a0_1] 26 (0, 0))) ∧ (w'.heap[ag]? = some (.cells #[.int .i64 a1_0, .int .u64 a1_1] 26 (0, 0))) ∧ (w'.heap[s_]? = some (.cells #[.int .u64 0, .int .u64 0, .int .u64 0, .int .u64 0, .int .u64 0, .int .u64 0, .int .u64 0, .int .u64 0, .int .u64 0, .int .u64 0, .int .u64 0, .int .u64 0] 54 (0, 0))) ∧ (w.heap.size ≤ s_) ∧ (w.heap.size ≤ s_) ∧ (ae ≠ s_) ∧ (s_ ≠ ae) ∧ (ag ≠ s_) ∧ (s_ ≠ ag) ∧ (Below w.heap.size w w')) ?_ ?_
                      rotate_left
                      · intro hJ6
                        refine two_ (i := 1) (j := 6) (Ni := some 7) (Nj := some 5) #[true, true, true, false, false, false, false, false] #[true, false, true, false, false, false, true, false] rfl rfl rfl rfl (two_of HT_.out (by kernel_rfl)) (by decide) (by decide) (fun K hK => ?_) (fun K hK => ?_)
                        · skip
                          refine goes_ Try.func36 (by kernel_rfl) rfl #[.agg #[.int .i64 a0_0, .int .u64 a0_1]] (by rfl) rfl rfl (by (try simp only [List.map_toArray, List.map_cons, List.map_nil]); first | done | rfl | (simp only [List.length_drop, List.length_take]; rfl)) ?_
                          with_reducible refine (Ref01.Digits.calls a0_0 a0_1 t157 t158 t159 t160 t161 t162 t163 t164 t165 t166 t167 t168 _ A3.out).mono ?_
                          rintro e w38 ⟨rfl, hb⟩
                          refine ⟨_, rfl, ?_⟩
                          have n0_ := zK (zL (g := ae) (o := .cells #[.int .i64 a0_0, .int .u64 a0_1] 26 (0, 0)) (by (with_reducible repeat (first | refine zA ?_ _ | refine zC ?_ | refine zB ?_ _)); exact ad.out) hb)
                          have n1_ := zK (zL (g := ag) (o := .cells #[.int .i64 a1_0, .int .u64 a1_1] 26 (0, 0)) (by (with_reducible repeat (first | refine zA ?_ _ | refine zC ?_ | refine zB ?_ _)); exact af.out) hb)
                          have n2_ := zK (zI (by repeat (first | (with_reducible first | exact HB.out | apply zG | apply zE | apply zF | refine zD ?_ ak.out | refine zD ?_ am.out) | exact HB.out)) hb)
                          clear ad
                          clear af
                          clear HB
                          have ad := n0_
                          have af := n1_
                          have HB := n2_
                          clear n0_ n1_ n2_
                          (try clear hb)
                          (try clear hb2)
                          (try clear hk)
                          (try clear hi)
                          refine hK.out _ _ ⟨(zH ad.out 0).trans rfl, (zH ad.out 1).trans rfl, (zH af.out 0).trans rfl, (zH af.out 1).trans rfl⟩ (fun hHeld => ?_)
                          clear hK K
                          refine norm_ (a' := ?_) ?_ ?_
                          rotate_left
                          · show Act.put _ (some 7) _ = _
                            simp only [Act.put, List.setIfInBounds_toArray, List.set_cons_zero, List.set_cons_succ, i64_w, i32_w]
                            rfl
                          exact norm_ (by first | (simp only [putAll, Act.put, List.setIfInBounds_toArray, List.set_cons_zero, List.set_cons_succ]; done) | (simp only [putAll, Act.put, List.setIfInBounds_toArray, List.set_cons_zero, List.set_cons_succ]; rfl)) (hJ1 () _ ⟨hHeld, (by (with_reducible repeat (first | refine zA ?_ _ | refine zC ?_ | refine zB ?_ _)); exact ad.out), (by (with_reducible repeat (first | refine zA ?_ _ | refine zC ?_ | refine zB ?_ _)); exact af.out), (by repeat (first | (with_reducible first | exact HB.out | apply zG | apply zE | apply zF | refine zD ?_ ak.out | refine zD ?_ am.out) | exact HB.out))⟩)
                        · skip
                          refine box_step ?hg (N := 5) ?hd (cs := #[.int .u64 0, .int .u64 0, .int .u64 0, .int .u64 0, .int .u64 0, .int .u64 0, .int .u64 0, .int .u64 0, .int .u64 0, .int .u64 0, .int .u64 0, .int .u64 0]) (t := 54) ?hr ?_; (case hd => rfl); (case hg => rfl); (case hr => first | (go_simp; done) | (go_simp; rfl))
                          intro aa hg w38 hbox hb
                          have n0_ := zK (zL (g := ae) (o := .cells #[.int .i64 a0_0, .int .u64 a0_1] 26 (0, 0)) (by (with_reducible repeat (first | refine zA ?_ _ | refine zC ?_ | refine zB ?_ _)); exact ad.out) hb)
                          have n1_ := zK (zL (g := ag) (o := .cells #[.int .i64 a1_0, .int .u64 a1_1] 26 (0, 0)) (by (with_reducible repeat (first | refine zA ?_ _ | refine zC ?_ | refine zB ?_ _)); exact af.out) hb)
                          have n2_ := zK (zI (by repeat (first | (with_reducible first | exact HB.out | apply zG | apply zE | apply zF | refine zD ?_ ak.out | refine zD ?_ am.out) | exact HB.out)) hb)
                          have n3_ := zK (hbox)
                          have n4_ := zK ((by rw [hg]; exact (zJ (by repeat (first | (with_reducible first | exact HB.out | apply zG | apply zE | apply zF | refine zD ?_ ak.out | refine zD ?_ am.out) | exact HB.out))) : w.heap.size ≤ aa))
                          have n5_ := zK ((by rw [hg]; exact (zJ (by repeat (first | (with_reducible first | exact HB.out | apply zG | apply zE | apply zF | refine zD ?_ ak.out | refine zD ?_ am.out) | exact HB.out))) : w.heap.size ≤ aa))
                          have n6_ := zK ((by rw [hg]; exact Nat.ne_of_lt (blk_lt (g := ae) (o := .cells #[.int .i64 a0_0, .int .u64 a0_1] 26 (0, 0)) (by (with_reducible repeat (first | refine zA ?_ _ | refine zC ?_ | refine zB ?_ _)); exact ad.out)) : ae ≠ aa))
                          have n7_ := zK ((by rw [hg]; exact Nat.ne_of_gt (blk_lt (g := ae) (o := .cells #[.int .i64 a0_0, .int .u64 a0_1] 26 (0, 0)) (by (with_reducible repeat (first | refine zA ?_ _ | refine zC ?_ | refine zB ?_ _)); exact ad.out)) : aa ≠ ae))
                          have n8_ := zK ((by rw [hg]; exact Nat.ne_of_lt (blk_lt (g := ag) (o := .cells #[.int .i64 a1_0, .int .u64 a1_1] 26 (0, 0)) (by (with_reducible repeat (first | refine zA ?_ _ | refine zC ?_ | refine zB ?_ _)); exact af.out)) : ag ≠ aa))
                          have n9_ := zK ((by rw [hg]; exact Nat.ne_of_gt (blk_lt (g := ag) (o := .cells #[.int .i64 a1_0, .int .u64 a1_1] 26 (0, 0)) (by (with_reducible repeat (first | refine zA ?_ _ | refine zC ?_ | refine zB ?_ _)); exact af.out)) : aa ≠ ag))
                          clear ad
                          clear af
                          clear HB
                          have ad := n0_
                          have af := n1_
                          have HB := n2_
                          have ah := n3_
                          have ap := n4_
                          have ao := n5_
                          have ac := n6_
                          have ai := n7_
                          have ab := n8_
                          have aj := n9_
                          clear n0_ n1_ n2_ n3_ n4_ n5_ n6_ n7_ n8_ n9_
                          clear hb hbox hg
                          refine hK.out _ _ ⟨(zH ad.out 0).trans rfl, (zH ad.out 1).trans rfl, (zH af.out 0).trans rfl, (zH af.out 1).trans rfl⟩ (fun hHeld => ?_)
                          clear hK K
                          refine norm_ (a' := ?_) ?_ ?_
                          rotate_left
                          · show Act.put _ (some 5) _ = _
                            simp only [Act.put, List.setIfInBounds_toArray, List.set_cons_zero, List.set_cons_succ, i64_w, i32_w]
                            rfl
                          exact norm_ (by first | (simp only [putAll, Act.put, List.setIfInBounds_toArray, List.set_cons_zero, List.set_cons_succ]; done) | (simp only [putAll, Act.put, List.setIfInBounds_toArray, List.set_cons_zero, List.set_cons_succ]; rfl)) (hJ6 (aa) _ ⟨hHeld, (by (with_reducible repeat (first | refine zA ?_ _ | refine zC ?_ | refine zB ?_ _)); exact ad.out), (by (with_reducible repeat (first | refine zA ?_ _ | refine zC ?_ | refine zB ?_ _)); exact af.out), (by (with_reducible repeat (first | refine zA ?_ _ | refine zC ?_ | refine zB ?_ _)); exact ah.out), ap.out, ao.out, ac.out, ai.out, ab.out, aj.out, (by repeat (first | (with_reducible first | exact HB.out | apply zG | apply zE | apply zF | refine zD ?_ ak.out | refine zD ?_ am.out | refine zD ?_ ao.out) | exact HB.out))⟩)
                      · skip
                        rintro aa w39 ⟨hS_, h0_, h1_, h2_, h3_, h4_, h5_, h6_, h7_, h8_, h9_⟩
                        have n0_ : Aside0 (w39.heap[ae]? = some (.cells #[.int .i64 a0_0, .int .u64 a0_1] 26 (0, 0))) := ⟨h0_⟩
                        have n1_ : Aside0 (w39.heap[ag]? = some (.cells #[.int .i64 a1_0, .int .u64 a1_1] 26 (0, 0))) := ⟨h1_⟩
                        have n2_ : Aside0 (w39.heap[aa]? = some (.cells #[.int .u64 0, .int .u64 0, .int .u64 0, .int .u64 0, .int .u64 0, .int .u64 0, .int .u64 0, .int .u64 0, .int .u64 0, .int .u64 0, .int .u64 0, .int .u64 0] 54 (0, 0))) := ⟨h2_⟩
                        have n3_ : Aside0 (w.heap.size ≤ aa) := ⟨h3_⟩
                        have n4_ : Aside0 (w.heap.size ≤ aa) := ⟨h4_⟩
                        have n5_ : Aside0 (ae ≠ aa) := ⟨h5_⟩
                        have n6_ : Aside0 (aa ≠ ae) := ⟨h6_⟩
                        have n7_ : Aside0 (ag ≠ aa) := ⟨h7_⟩
                        have n8_ : Aside0 (aa ≠ ag) := ⟨h8_⟩
                        have n9_ : Aside0 (Below w.heap.size w w39) := ⟨h9_⟩
                        clear ad
                        clear af
                        clear HB
                        clear h0_ h1_ h2_ h3_ h4_ h5_ h6_ h7_ h8_ h9_
                        have ad := n0_
                        have af := n1_
                        have ah := n2_
                        have ap := n3_
                        have ao := n4_
                        have ac := n5_
                        have ai := n6_
                        have ab := n7_
                        have aj := n8_
                        have HB := n9_
                        clear n0_ n1_ n2_ n3_ n4_ n5_ n6_ n7_ n8_ n9_
                        have hHeld : w39.cell? ⟨ae, 0, none⟩ = some (.int .i64 a0_0) ∧ w39.cell? ⟨ae, 1, none⟩ = some (.int .u64 a0_1) ∧ w39.cell? ⟨ag, 0, none⟩ = some (.int .i64 a1_0) ∧ w39.cell? ⟨ag, 1, none⟩ = some (.int .u64 a1_1) := hS_
                        refine norm_ (a' := ?_) ?_ ?_
                        rotate_left
                        · simp only [putAll, Act.put, List.setIfInBounds_toArray, List.set_cons_zero, List.set_cons_succ]
                          rfl
                        refine one_ (i := 1) (N := some 7) #[true, true, true, false, false, false, true, false] rfl rfl (one_of HT_.out (by kernel_rfl)) (by decide) (fun K hK => ?_)
                        refine goes_ Try.func36 (by kernel_rfl) rfl #[.agg #[.int .i64 a0_0, .int .u64 a0_1]] (by rfl) rfl rfl (by (try simp only [List.map_toArray, List.map_cons, List.map_nil]); first | done | rfl | (simp only [List.length_drop, List.length_take]; rfl)) ?_
                        with_reducible refine (Ref01.Digits.calls a0_0 a0_1 t157 t158 t159 t160 t161 t162 t163 t164 t165 t166 t167 t168 _ A3.out).mono ?_
                        rintro e w40 ⟨rfl, hb⟩
                        refine ⟨_, rfl, ?_⟩
                        have n0_ := zK (zL (g := ae) (o := .cells #[.int .i64 a0_0, .int .u64 a0_1] 26 (0, 0)) (by (with_reducible repeat (first | refine zA ?_ _ | refine zC ?_ | refine zB ?_ _)); exact ad.out) hb)
                        have n1_ := zK (zL (g := ag) (o := .cells #[.int .i64 a1_0, .int .u64 a1_1] 26 (0, 0)) (by (with_reducible repeat (first | refine zA ?_ _ | refine zC ?_ | refine zB ?_ _)); exact af.out) hb)
                        have n2_ := zK (zL (g := aa) (o := .cells #[.int .u64 0, .int .u64 0, .int .u64 0, .int .u64 0, .int .u64 0, .int .u64 0, .int .u64 0, .int .u64 0, .int .u64 0, .int .u64 0, .int .u64 0, .int .u64 0] 54 (0, 0)) (by (with_reducible repeat (first | refine zA ?_ _ | refine zC ?_ | refine zB ?_ _)); exact ah.out) hb)
                        have n3_ := zK (zI (by repeat (first | (with_reducible first | exact HB.out | apply zG | apply zE | apply zF | refine zD ?_ ak.out | refine zD ?_ am.out | refine zD ?_ ao.out) | exact HB.out)) hb)
                        clear ad
                        clear af
                        clear ah
                        clear HB
                        have ad := n0_
                        have af := n1_
                        have ah := n2_
                        have HB := n3_
                        clear n0_ n1_ n2_ n3_
                        (try clear hb)
                        (try clear hb2)
                        (try clear hk)
                        (try clear hi)
                        refine hK.out _ _ ⟨(zH ad.out 0).trans rfl, (zH ad.out 1).trans rfl, (zH af.out 0).trans rfl, (zH af.out 1).trans rfl⟩ (fun hHeld => ?_)
                        clear hK K
                        refine norm_ (a' := ?_) ?_ ?_
                        rotate_left
                        · show Act.put _ (some 7) _ = _
                          simp only [Act.put, List.setIfInBounds_toArray, List.set_cons_zero, List.set_cons_succ, i64_w, i32_w]
                          rfl
                        exact norm_ (by first | (simp only [putAll, Act.put, List.setIfInBounds_toArray, List.set_cons_zero, List.set_cons_succ]; done) | (simp only [putAll, Act.put, List.setIfInBounds_toArray, List.set_cons_zero, List.set_cons_succ]; rfl)) (hJ1_6 (aa) _ ⟨hHeld, (by (with_reducible repeat (first | refine zA ?_ _ | refine zC ?_ | refine zB ?_ _)); exact ad.out), (by (with_reducible repeat (first | refine zA ?_ _ | refine zC ?_ | refine zB ?_ _)); exact af.out), (by (with_reducible repeat (first | refine zA ?_ _ | refine zC ?_ | refine zB ?_ _)); exact ah.out), ap.out, ao.out, ac.out, ai.out, ab.out, aj.out, (by repeat (first | (with_reducible first | exact HB.out | apply zG | apply zE | apply zF | refine zD ?_ ak.out | refine zD ?_ am.out | refine zD ?_ ao.out) | exact HB.out))⟩)
                    · skip
                      rintro _ w39 ⟨hS_, h0_, h1_, h2_⟩
                      have n0_ : Aside0 (w39.heap[ae]? = some (.cells #[.int .i64 a0_0, .int .u64 a0_1] 26 (0, 0))) := ⟨h0_⟩
                      have n1_ : Aside0 (w39.heap[ag]? = some (.cells #[.int .i64 a1_0, .int .u64 a1_1] 26 (0, 0))) := ⟨h1_⟩
                      have n2_ : Aside0 (Below w.heap.size w w39) := ⟨h2_⟩
                      clear ad
                      clear af
                      clear HB
                      clear h0_ h1_ h2_
                      have ad := n0_
                      have af := n1_
                      have HB := n2_
                      clear n0_ n1_ n2_
                      have hHeld : w39.cell? ⟨ae, 0, none⟩ = some (.int .i64 a0_0) ∧ w39.cell? ⟨ae, 1, none⟩ = some (.int .u64 a0_1) ∧ w39.cell? ⟨ag, 0, none⟩ = some (.int .i64 a1_0) ∧ w39.cell? ⟨ag, 1, none⟩ = some (.int .u64 a1_1) := hS_
                      refine norm_ (a' := ?_) ?_ ?_
                      rotate_left
                      · simp only [putAll, Act.put, List.setIfInBounds_toArray, List.set_cons_zero, List.set_cons_succ]
                        rfl
                      refine two_ (i := 3) (j := 6) (Ni := some 9) (Nj := some 5) #[true, true, true, true, false, false, false, false] #[true, true, true, false, false, false, true, false] rfl rfl rfl rfl (two_of HT_.out (by kernel_rfl)) (by decide) (by decide) (fun K hK => ?_) (fun K hK => ?_)
                      · skip
                        refine goes_ Try.func36 (by kernel_rfl) rfl #[.agg #[.int .i64 a1_0, .int .u64 a1_1]] (by rfl) rfl rfl (by (try simp only [List.map_toArray, List.map_cons, List.map_nil]); first | done | rfl | (simp only [List.length_drop, List.length_take]; rfl)) ?_
                        with_reducible refine (Ref01.Digits.calls a1_0 a1_1 t169 t170 t171 t172 t173 t174 t175 t176 t177 t178 t179 t180 _ A4.out).mono ?_
                        rintro e w40 ⟨rfl, hb⟩
                        refine ⟨_, rfl, ?_⟩
                        have n0_ := zK (zL (g := ae) (o := .cells #[.int .i64 a0_0, .int .u64 a0_1] 26 (0, 0)) (by (with_reducible repeat (first | refine zA ?_ _ | refine zC ?_ | refine zB ?_ _)); exact ad.out) hb)
                        have n1_ := zK (zL (g := ag) (o := .cells #[.int .i64 a1_0, .int .u64 a1_1] 26 (0, 0)) (by (with_reducible repeat (first | refine zA ?_ _ | refine zC ?_ | refine zB ?_ _)); exact af.out) hb)
                        have n2_ := zK (zI (by repeat (first | (with_reducible first | exact HB.out | apply zG | apply zE | apply zF | refine zD ?_ ak.out | refine zD ?_ am.out) | exact HB.out)) hb)
                        clear ad
                        clear af
                        clear HB
                        have ad := n0_
                        have af := n1_
                        have HB := n2_
                        clear n0_ n1_ n2_
                        (try clear hb)
                        (try clear hb2)
                        (try clear hk)
                        (try clear hi)
                        refine hK.out _ _ ⟨(zH ad.out 0).trans rfl, (zH ad.out 1).trans rfl, (zH af.out 0).trans rfl, (zH af.out 1).trans rfl⟩ (fun hHeld => ?_)
                        clear hK K
                        refine norm_ (a' := ?_) ?_ ?_
                        rotate_left
                        · show Act.put _ (some 9) _ = _
                          simp only [Act.put, List.setIfInBounds_toArray, List.set_cons_zero, List.set_cons_succ, i64_w, i32_w]
                          rfl
                        exact norm_ (by first | (simp only [putAll, Act.put, List.setIfInBounds_toArray, List.set_cons_zero, List.set_cons_succ]; done) | (simp only [putAll, Act.put, List.setIfInBounds_toArray, List.set_cons_zero, List.set_cons_succ]; rfl)) (hJ1_3 () _ ⟨hHeld, (by (with_reducible repeat (first | refine zA ?_ _ | refine zC ?_ | refine zB ?_ _)); exact ad.out), (by (with_reducible repeat (first | refine zA ?_ _ | refine zC ?_ | refine zB ?_ _)); exact af.out), (by repeat (first | (with_reducible first | exact HB.out | apply zG | apply zE | apply zF | refine zD ?_ ak.out | refine zD ?_ am.out) | exact HB.out))⟩)
                      · skip
                        refine box_step ?hg (N := 5) ?hd (cs := #[.int .u64 0, .int .u64 0, .int .u64 0, .int .u64 0, .int .u64 0, .int .u64 0, .int .u64 0, .int .u64 0, .int .u64 0, .int .u64 0, .int .u64 0, .int .u64 0]) (t := 54) ?hr ?_; (case hd => rfl); (case hg => rfl); (case hr => first | (go_simp; done) | (go_simp; rfl))
                        intro aa hg w40 hbox hb
                        have n0_ := zK (zL (g := ae) (o := .cells #[.int .i64 a0_0, .int .u64 a0_1] 26 (0, 0)) (by (with_reducible repeat (first | refine zA ?_ _ | refine zC ?_ | refine zB ?_ _)); exact ad.out) hb)
                        have n1_ := zK (zL (g := ag) (o := .cells #[.int .i64 a1_0, .int .u64 a1_1] 26 (0, 0)) (by (with_reducible repeat (first | refine zA ?_ _ | refine zC ?_ | refine zB ?_ _)); exact af.out) hb)
                        have n2_ := zK (zI (by repeat (first | (with_reducible first | exact HB.out | apply zG | apply zE | apply zF | refine zD ?_ ak.out | refine zD ?_ am.out) | exact HB.out)) hb)
                        have n3_ := zK (hbox)
                        have n4_ := zK ((by rw [hg]; exact (zJ (by repeat (first | (with_reducible first | exact HB.out | apply zG | apply zE | apply zF | refine zD ?_ ak.out | refine zD ?_ am.out) | exact HB.out))) : w.heap.size ≤ aa))
                        have n5_ := zK ((by rw [hg]; exact (zJ (by repeat (first | (with_reducible first | exact HB.out | apply zG | apply zE | apply zF | refine zD ?_ ak.out | refine zD ?_ am.out) | exact HB.out))) : w.heap.size ≤ aa))
                        have n6_ := zK ((by rw [hg]; exact Nat.ne_of_lt (blk_lt (g := ae) (o := .cells #[.int .i64 a0_0, .int .u64 a0_1] 26 (0, 0)) (by (with_reducible repeat (first | refine zA ?_ _ | refine zC ?_ | refine zB ?_ _)); exact ad.out)) : ae ≠ aa))
                        have n7_ := zK ((by rw [hg]; exact Nat.ne_of_gt (blk_lt (g := ae) (o := .cells #[.int .i64 a0_0, .int .u64 a0_1] 26 (0, 0)) (by (with_reducible repeat (first | refine zA ?_ _ | refine zC ?_ | refine zB ?_ _)); exact ad.out)) : aa ≠ ae))
                        have n8_ := zK ((by rw [hg]; exact Nat.ne_of_lt (blk_lt (g := ag) (o := .cells #[.int .i64 a1_0, .int .u64 a1_1] 26 (0, 0)) (by (with_reducible repeat (first | refine zA ?_ _ | refine zC ?_ | refine zB ?_ _)); exact af.out)) : ag ≠ aa))
                        have n9_ := zK ((by rw [hg]; exact Nat.ne_of_gt (blk_lt (g := ag) (o := .cells #[.int .i64 a1_0, .int .u64 a1_1] 26 (0, 0)) (by (with_reducible repeat (first | refine zA ?_ _ | refine zC ?_ | refine zB ?_ _)); exact af.out)) : aa ≠ ag))
                        clear ad
                        clear af
                        clear HB
                        have ad := n0_
                        have af := n1_
                        have HB := n2_
                        have ah := n3_
                        have ap := n4_
                        have ao := n5_
                        have ac := n6_
                        have ai := n7_
                        have ab := n8_
                        have aj := n9_
                        clear n0_ n1_ n2_ n3_ n4_ n5_ n6_ n7_ n8_ n9_
                        clear hb hbox hg
                        refine hK.out _ _ ⟨(zH ad.out 0).trans rfl, (zH ad.out 1).trans rfl, (zH af.out 0).trans rfl, (zH af.out 1).trans rfl⟩ (fun hHeld => ?_)
                        clear hK K
                        refine norm_ (a' := ?_) ?_ ?_
                        rotate_left
                        · show Act.put _ (some 5) _ = _
                          simp only [Act.put, List.setIfInBounds_toArray, List.set_cons_zero, List.set_cons_succ, i64_w, i32_w]
                          rfl
                        exact norm_ (by first | (simp only [putAll, Act.put, List.setIfInBounds_toArray, List.set_cons_zero, List.set_cons_succ]; done) | (simp only [putAll, Act.put, List.setIfInBounds_toArray, List.set_cons_zero, List.set_cons_succ]; rfl)) (hJ1_6 (aa) _ ⟨hHeld, (by (with_reducible repeat (first | refine zA ?_ _ | refine zC ?_ | refine zB ?_ _)); exact ad.out), (by (with_reducible repeat (first | refine zA ?_ _ | refine zC ?_ | refine zB ?_ _)); exact af.out), (by (with_reducible repeat (first | refine zA ?_ _ | refine zC ?_ | refine zB ?_ _)); exact ah.out), ap.out, ao.out, ac.out, ai.out, ab.out, aj.out, (by repeat (first | (with_reducible first | exact HB.out | apply zG | apply zE | apply zF | refine zD ?_ ak.out | refine zD ?_ am.out | refine zD ?_ ao.out) | exact HB.out))⟩)
                  · skip
                    rintro aa w40 ⟨hS_, h0_, h1_, h2_, h3_, h4_, h5_, h6_, h7_, h8_, h9_⟩
                    have n0_ : Aside0 (w40.heap[ae]? = some (.cells #[.int .i64 a0_0, .int .u64 a0_1] 26 (0, 0))) := ⟨h0_⟩
                    have n1_ : Aside0 (w40.heap[ag]? = some (.cells #[.int .i64 a1_0, .int .u64 a1_1] 26 (0, 0))) := ⟨h1_⟩
                    have n2_ : Aside0 (w40.heap[aa]? = some (.cells #[.int .u64 0, .int .u64 0, .int .u64 0, .int .u64 0, .int .u64 0, .int .u64 0, .int .u64 0, .int .u64 0, .int .u64 0, .int .u64 0, .int .u64 0, .int .u64 0] 54 (0, 0))) := ⟨h2_⟩
                    have n3_ : Aside0 (w.heap.size ≤ aa) := ⟨h3_⟩
                    have n4_ : Aside0 (w.heap.size ≤ aa) := ⟨h4_⟩
                    have n5_ : Aside0 (ae ≠ aa) := ⟨h5_⟩
                    have n6_ : Aside0 (aa ≠ ae) := ⟨h6_⟩
                    have n7_ : Aside0 (ag ≠ aa) := ⟨h7_⟩
                    have n8_ : Aside0 (aa ≠ ag) := ⟨h8_⟩
                    have n9_ : Aside0 (Below w.heap.size w w40) := ⟨h9_⟩
                    clear ad
                    clear af
                    clear HB
                    clear h0_ h1_ h2_ h3_ h4_ h5_ h6_ h7_ h8_ h9_
                    have ad := n0_
                    have af := n1_
                    have ah := n2_
                    have ap := n3_
                    have ao := n4_
                    have ac := n5_
                    have ai := n6_
                    have ab := n7_
                    have aj := n8_
                    have HB := n9_
                    clear n0_ n1_ n2_ n3_ n4_ n5_ n6_ n7_ n8_ n9_
                    have hHeld : w40.cell? ⟨ae, 0, none⟩ = some (.int .i64 a0_0) ∧ w40.cell? ⟨ae, 1, none⟩ = some (.int .u64 a0_1) ∧ w40.cell? ⟨ag, 0, none⟩ = some (.int .i64 a1_0) ∧ w40.cell? ⟨ag, 1, none⟩ = some (.int .u64 a1_1) := hS_
                    refine norm_ (a' := ?_) ?_ ?_
                    rotate_left
                    · simp only [putAll, Act.put, List.setIfInBounds_toArray, List.set_cons_zero, List.set_cons_succ]
                      rfl
                    refine one_ (i := 3) (N := some 9) #[true, true, true, true, false, false, true, false] rfl rfl (one_of HT_.out (by kernel_rfl)) (by decide) (fun K hK => ?_)
                    refine goes_ Try.func36 (by kernel_rfl) rfl #[.agg #[.int .i64 a1_0, .int .u64 a1_1]] (by rfl) rfl rfl (by (try simp only [List.map_toArray, List.map_cons, List.map_nil]); first | done | rfl | (simp only [List.length_drop, List.length_take]; rfl)) ?_
                    with_reducible refine (Ref01.Digits.calls a1_0 a1_1 t169 t170 t171 t172 t173 t174 t175 t176 t177 t178 t179 t180 _ A4.out).mono ?_
                    rintro e w41 ⟨rfl, hb⟩
                    refine ⟨_, rfl, ?_⟩
                    have n0_ := zK (zL (g := ae) (o := .cells #[.int .i64 a0_0, .int .u64 a0_1] 26 (0, 0)) (by (with_reducible repeat (first | refine zA ?_ _ | refine zC ?_ | refine zB ?_ _)); exact ad.out) hb)
                    have n1_ := zK (zL (g := ag) (o := .cells #[.int .i64 a1_0, .int .u64 a1_1] 26 (0, 0)) (by (with_reducible repeat (first | refine zA ?_ _ | refine zC ?_ | refine zB ?_ _)); exact af.out) hb)
                    have n2_ := zK (zL (g := aa) (o := .cells #[.int .u64 0, .int .u64 0, .int .u64 0, .int .u64 0, .int .u64 0, .int .u64 0, .int .u64 0, .int .u64 0, .int .u64 0, .int .u64 0, .int .u64 0, .int .u64 0] 54 (0, 0)) (by (with_reducible repeat (first | refine zA ?_ _ | refine zC ?_ | refine zB ?_ _)); exact ah.out) hb)
                    have n3_ := zK (zI (by repeat (first | (with_reducible first | exact HB.out | apply zG | apply zE | apply zF | refine zD ?_ ak.out | refine zD ?_ am.out | refine zD ?_ ao.out) | exact HB.out)) hb)
                    clear ad
                    clear af
                    clear ah
                    clear HB
                    have ad := n0_
                    have af := n1_
                    have ah := n2_
                    have HB := n3_
                    clear n0_ n1_ n2_ n3_
                    (try clear hb)
                    (try clear hb2)
                    (try clear hk)
                    (try clear hi)
                    refine hK.out _ _ ⟨(zH ad.out 0).trans rfl, (zH ad.out 1).trans rfl, (zH af.out 0).trans rfl, (zH af.out 1).trans rfl⟩ (fun hHeld => ?_)
                    clear hK K
                    refine norm_ (a' := ?_) ?_ ?_
                    rotate_left
                    · show Act.put _ (some 9) _ = _
                      simp only [Act.put, List.setIfInBounds_toArray, List.set_cons_zero, List.set_cons_succ, i64_w, i32_w]
                      rfl
                    exact norm_ (by first | (simp only [putAll, Act.put, List.setIfInBounds_toArray, List.set_cons_zero, List.set_cons_succ]; done) | (simp only [putAll, Act.put, List.setIfInBounds_toArray, List.set_cons_zero, List.set_cons_succ]; rfl)) (hJ1_3_6 (aa) _ ⟨hHeld, (by (with_reducible repeat (first | refine zA ?_ _ | refine zC ?_ | refine zB ?_ _)); exact ad.out), (by (with_reducible repeat (first | refine zA ?_ _ | refine zC ?_ | refine zB ?_ _)); exact af.out), (by (with_reducible repeat (first | refine zA ?_ _ | refine zC ?_ | refine zB ?_ _)); exact ah.out), ap.out, ao.out, ac.out, ai.out, ab.out, aj.out, (by repeat (first | (with_reducible first | exact HB.out | apply zG | apply zE | apply zF | refine zD ?_ ak.out | refine zD ?_ am.out | refine zD ?_ ao.out) | exact HB.out))⟩)
                · skip
                  rintro _ w40 ⟨hS_, h0_, h1_, h2_⟩
                  have n0_ : Aside0 (w40.heap[ae]? = some (.cells #[.int .i64 a0_0, .int .u64 a0_1] 26 (0, 0))) := ⟨h0_⟩
                  have n1_ : Aside0 (w40.heap[ag]? = some (.cells #[.int .i64 a1_0, .int .u64 a1_1] 26 (0, 0))) := ⟨h1_⟩
                  have n2_ : Aside0 (Below w.heap.size w w40) := ⟨h2_⟩
                  clear ad
                  clear af
                  clear HB
                  clear h0_ h1_ h2_
                  have ad := n0_
                  have af := n1_
                  have HB := n2_
                  clear n0_ n1_ n2_
                  have hHeld : w40.cell? ⟨ae, 0, none⟩ = some (.int .i64 a0_0) ∧ w40.cell? ⟨ae, 1, none⟩ = some (.int .u64 a0_1) ∧ w40.cell? ⟨ag, 0, none⟩ = some (.int .i64 a1_0) ∧ w40.cell? ⟨ag, 1, none⟩ = some (.int .u64 a1_1) := hS_
                  refine norm_ (a' := ?_) ?_ ?_
                  rotate_left
                  · simp only [putAll, Act.put, List.setIfInBounds_toArray, List.set_cons_zero, List.set_cons_succ]
                    rfl
                  refine two_ (i := 4) (j := 6) (Ni := some 10) (Nj := some 5) #[true, true, true, true, true, false, false, false] #[true, true, true, true, false, false, true, false] rfl rfl rfl rfl (two_of HT_.out (by kernel_rfl)) (by decide) (by decide) (fun K hK => ?_) (fun K hK => ?_)
                  · skip
                    refine goes_ Try.func38 (by kernel_rfl) rfl #[.agg #[.int .u64 t169, .int .u64 t170, .int .u64 t171, .int .u64 t172, .int .u64 t173, .int .u64 t174, .int .u64 t175, .int .u64 t176, .int .u64 t177, .int .u64 t178, .int .u64 t179, .int .u64 t180]] (by rfl) rfl rfl (by (try simp only [List.map_toArray, List.map_cons, List.map_nil]); first | done | rfl | (simp only [List.length_drop, List.length_take]; rfl)) ?_
                    with_reducible refine (Ref01.Turned.calls t169 t170 t171 t172 t173 t174 t175 t176 t177 t178 t179 t180 t181 t182 t183 t184 t185 t186 t187 t188 t189 t190 t191 t192 _ A5.out).mono ?_
                    rintro e w41 ⟨rfl, hb⟩
                    refine ⟨_, rfl, ?_⟩
                    have n0_ := zK (zL (g := ae) (o := .cells #[.int .i64 a0_0, .int .u64 a0_1] 26 (0, 0)) (by (with_reducible repeat (first | refine zA ?_ _ | refine zC ?_ | refine zB ?_ _)); exact ad.out) hb)
                    have n1_ := zK (zL (g := ag) (o := .cells #[.int .i64 a1_0, .int .u64 a1_1] 26 (0, 0)) (by (with_reducible repeat (first | refine zA ?_ _ | refine zC ?_ | refine zB ?_ _)); exact af.out) hb)
                    have n2_ := zK (zI (by repeat (first | (with_reducible first | exact HB.out | apply zG | apply zE | apply zF | refine zD ?_ ak.out | refine zD ?_ am.out) | exact HB.out)) hb)
                    clear ad
                    clear af
                    clear HB
                    have ad := n0_
                    have af := n1_
                    have HB := n2_
                    clear n0_ n1_ n2_
                    (try clear hb)
                    (try clear hb2)
                    (try clear hk)
                    (try clear hi)
                    refine hK.out _ _ ⟨(zH ad.out 0).trans rfl, (zH ad.out 1).trans rfl, (zH af.out 0).trans rfl, (zH af.out 1).trans rfl⟩ (fun hHeld => ?_)
                    clear hK K
                    refine norm_ (a' := ?_) ?_ ?_
                    rotate_left
                    · show Act.put _ (some 10) _ = _
                      simp only [Act.put, List.setIfInBounds_toArray, List.set_cons_zero, List.set_cons_succ, i64_w, i32_w]
                      rfl
                    exact norm_ (by first | (simp only [putAll, Act.put, List.setIfInBounds_toArray, List.set_cons_zero, List.set_cons_succ]; done) | (simp only [putAll, Act.put, List.setIfInBounds_toArray, List.set_cons_zero, List.set_cons_succ]; rfl)) (hJ1_3_4 () _ ⟨hHeld, (by (with_reducible repeat (first | refine zA ?_ _ | refine zC ?_ | refine zB ?_ _)); exact ad.out), (by (with_reducible repeat (first | refine zA ?_ _ | refine zC ?_ | refine zB ?_ _)); exact af.out), (by repeat (first | (with_reducible first | exact HB.out | apply zG | apply zE | apply zF | refine zD ?_ ak.out | refine zD ?_ am.out) | exact HB.out))⟩)
                  · skip
                    refine box_step ?hg (N := 5) ?hd (cs := #[.int .u64 0, .int .u64 0, .int .u64 0, .int .u64 0, .int .u64 0, .int .u64 0, .int .u64 0, .int .u64 0, .int .u64 0, .int .u64 0, .int .u64 0, .int .u64 0]) (t := 54) ?hr ?_; (case hd => rfl); (case hg => rfl); (case hr => first | (go_simp; done) | (go_simp; rfl))
                    intro aa hg w41 hbox hb
                    have n0_ := zK (zL (g := ae) (o := .cells #[.int .i64 a0_0, .int .u64 a0_1] 26 (0, 0)) (by (with_reducible repeat (first | refine zA ?_ _ | refine zC ?_ | refine zB ?_ _)); exact ad.out) hb)
                    have n1_ := zK (zL (g := ag) (o := .cells #[.int .i64 a1_0, .int .u64 a1_1] 26 (0, 0)) (by (with_reducible repeat (first | refine zA ?_ _ | refine zC ?_ | refine zB ?_ _)); exact af.out) hb)
                    have n2_ := zK (zI (by repeat (first | (with_reducible first | exact HB.out | apply zG | apply zE | apply zF | refine zD ?_ ak.out | refine zD ?_ am.out) | exact HB.out)) hb)
                    have n3_ := zK (hbox)
                    have n4_ := zK ((by rw [hg]; exact (zJ (by repeat (first | (with_reducible first | exact HB.out | apply zG | apply zE | apply zF | refine zD ?_ ak.out | refine zD ?_ am.out) | exact HB.out))) : w.heap.size ≤ aa))
                    have n5_ := zK ((by rw [hg]; exact (zJ (by repeat (first | (with_reducible first | exact HB.out | apply zG | apply zE | apply zF | refine zD ?_ ak.out | refine zD ?_ am.out) | exact HB.out))) : w.heap.size ≤ aa))
                    have n6_ := zK ((by rw [hg]; exact Nat.ne_of_lt (blk_lt (g := ae) (o := .cells #[.int .i64 a0_0, .int .u64 a0_1] 26 (0, 0)) (by (with_reducible repeat (first | refine zA ?_ _ | refine zC ?_ | refine zB ?_ _)); exact ad.out)) : ae ≠ aa))
                    have n7_ := zK ((by rw [hg]; exact Nat.ne_of_gt (blk_lt (g := ae) (o := .cells #[.int .i64 a0_0, .int .u64 a0_1] 26 (0, 0)) (by (with_reducible repeat (first | refine zA ?_ _ | refine zC ?_ | refine zB ?_ _)); exact ad.out)) : aa ≠ ae))
                    have n8_ := zK ((by rw [hg]; exact Nat.ne_of_lt (blk_lt (g := ag) (o := .cells #[.int .i64 a1_0, .int .u64 a1_1] 26 (0, 0)) (by (with_reducible repeat (first | refine zA ?_ _ | refine zC ?_ | refine zB ?_ _)); exact af.out)) : ag ≠ aa))
                    have n9_ := zK ((by rw [hg]; exact Nat.ne_of_gt (blk_lt (g := ag) (o := .cells #[.int .i64 a1_0, .int .u64 a1_1] 26 (0, 0)) (by (with_reducible repeat (first | refine zA ?_ _ | refine zC ?_ | refine zB ?_ _)); exact af.out)) : aa ≠ ag))
                    clear ad
                    clear af
                    clear HB
                    have ad := n0_
                    have af := n1_
                    have HB := n2_
                    have ah := n3_
                    have ap := n4_
                    have ao := n5_
                    have ac := n6_
                    have ai := n7_
                    have ab := n8_
                    have aj := n9_
                    clear n0_ n1_ n2_ n3_ n4_ n5_ n6_ n7_ n8_ n9_
                    clear hb hbox hg
                    refine hK.out _ _ ⟨(zH ad.out 0).trans rfl, (zH ad.out 1).trans rfl, (zH af.out 0).trans rfl, (zH af.out 1).trans rfl⟩ (fun hHeld => ?_)
                    clear hK K
                    refine norm_ (a' := ?_) ?_ ?_
                    rotate_left
                    · show Act.put _ (some 5) _ = _
                      simp only [Act.put, List.setIfInBounds_toArray, List.set_cons_zero, List.set_cons_succ, i64_w, i32_w]
                      rfl
                    exact norm_ (by first | (simp only [putAll, Act.put, List.setIfInBounds_toArray, List.set_cons_zero, List.set_cons_succ]; done) | (simp only [putAll, Act.put, List.setIfInBounds_toArray, List.set_cons_zero, List.set_cons_succ]; rfl)) (hJ1_3_6 (aa) _ ⟨hHeld, (by (with_reducible repeat (first | refine zA ?_ _ | refine zC ?_ | refine zB ?_ _)); exact ad.out), (by (with_reducible repeat (first | refine zA ?_ _ | refine zC ?_ | refine zB ?_ _)); exact af.out), (by (with_reducible repeat (first | refine zA ?_ _ | refine zC ?_ | refine zB ?_ _)); exact ah.out), ap.out, ao.out, ac.out, ai.out, ab.out, aj.out, (by repeat (first | (with_reducible first | exact HB.out | apply zG | apply zE | apply zF | refine zD ?_ ak.out | refine zD ?_ am.out | refine zD ?_ ao.out) | exact HB.out))⟩)
              · skip
                rintro aa w41 ⟨hS_, h0_, h1_, h2_, h3_, h4_, h5_, h6_, h7_, h8_, h9_⟩
                have n0_ : Aside0 (w41.heap[ae]? = some (.cells #[.int .i64 a0_0, .int .u64 a0_1] 26 (0, 0))) := ⟨h0_⟩
                have n1_ : Aside0 (w41.heap[ag]? = some (.cells #[.int .i64 a1_0, .int .u64 a1_1] 26 (0, 0))) := ⟨h1_⟩
                have n2_ : Aside0 (w41.heap[aa]? = some (.cells #[.int .u64 0, .int .u64 0, .int .u64 0, .int .u64 0, .int .u64 0, .int .u64 0, .int .u64 0, .int .u64 0, .int .u64 0, .int .u64 0, .int .u64 0, .int .u64 0] 54 (0, 0))) := ⟨h2_⟩
                have n3_ : Aside0 (w.heap.size ≤ aa) := ⟨h3_⟩
                have n4_ : Aside0 (w.heap.size ≤ aa) := ⟨h4_⟩
                have n5_ : Aside0 (ae ≠ aa) := ⟨h5_⟩
                have n6_ : Aside0 (aa ≠ ae) := ⟨h6_⟩
                have n7_ : Aside0 (ag ≠ aa) := ⟨h7_⟩
                have n8_ : Aside0 (aa ≠ ag) := ⟨h8_⟩
                have n9_ : Aside0 (Below w.heap.size w w41) := ⟨h9_⟩
                clear ad
                clear af
                clear HB
                clear h0_ h1_ h2_ h3_ h4_ h5_ h6_ h7_ h8_ h9_
                have ad := n0_
                have af := n1_
                have ah := n2_
                have ap := n3_
                have ao := n4_
                have ac := n5_
                have ai := n6_
                have ab := n7_
                have aj := n8_
                have HB := n9_
                clear n0_ n1_ n2_ n3_ n4_ n5_ n6_ n7_ n8_ n9_
                have hHeld : w41.cell? ⟨ae, 0, none⟩ = some (.int .i64 a0_0) ∧ w41.cell? ⟨ae, 1, none⟩ = some (.int .u64 a0_1) ∧ w41.cell? ⟨ag, 0, none⟩ = some (.int .i64 a1_0) ∧ w41.cell? ⟨ag, 1, none⟩ = some (.int .u64 a1_1) := hS_
                refine norm_ (a' := ?_) ?_ ?_
                rotate_left
                · simp only [putAll, Act.put, List.setIfInBounds_toArray, List.set_cons_zero, List.set_cons_succ]
                  rfl
                refine one_ (i := 4) (N := some 10) #[true, true, true, true, true, false, true, false] rfl rfl (one_of HT_.out (by kernel_rfl)) (by decide) (fun K hK => ?_)
                refine goes_ Try.func38 (by kernel_rfl) rfl #[.agg #[.int .u64 t169, .int .u64 t170, .int .u64 t171, .int .u64 t172, .int .u64 t173, .int .u64 t174, .int .u64 t175, .int .u64 t176, .int .u64 t177, .int .u64 t178, .int .u64 t179, .int .u64 t180]] (by rfl) rfl rfl (by (try simp only [List.map_toArray, List.map_cons, List.map_nil]); first | done | rfl | (simp only [List.length_drop, List.length_take]; rfl)) ?_
                with_reducible refine (Ref01.Turned.calls t169 t170 t171 t172 t173 t174 t175 t176 t177 t178 t179 t180 t181 t182 t183 t184 t185 t186 t187 t188 t189 t190 t191 t192 _ A5.out).mono ?_
                rintro e w42 ⟨rfl, hb⟩
                refine ⟨_, rfl, ?_⟩
                have n0_ := zK (zL (g := ae) (o := .cells #[.int .i64 a0_0, .int .u64 a0_1] 26 (0, 0)) (by (with_reducible repeat (first | refine zA ?_ _ | refine zC ?_ | refine zB ?_ _)); exact ad.out) hb)
                have n1_ := zK (zL (g := ag) (o := .cells #[.int .i64 a1_0, .int .u64 a1_1] 26 (0, 0)) (by (with_reducible repeat (first | refine zA ?_ _ | refine zC ?_ | refine zB ?_ _)); exact af.out) hb)
                have n2_ := zK (zL (g := aa) (o := .cells #[.int .u64 0, .int .u64 0, .int .u64 0, .int .u64 0, .int .u64 0, .int .u64 0, .int .u64 0, .int .u64 0, .int .u64 0, .int .u64 0, .int .u64 0, .int .u64 0] 54 (0, 0)) (by (with_reducible repeat (first | refine zA ?_ _ | refine zC ?_ | refine zB ?_ _)); exact ah.out) hb)
                have n3_ := zK (zI (by repeat (first | (with_reducible first | exact HB.out | apply zG | apply zE | apply zF | refine zD ?_ ak.out | refine zD ?_ am.out | refine zD ?_ ao.out) | exact HB.out)) hb)
                clear ad
                clear af
                clear ah
                clear HB
                have ad := n0_
                have af := n1_
                have ah := n2_
                have HB := n3_
                clear n0_ n1_ n2_ n3_
                (try clear hb)
                (try clear hb2)
                (try clear hk)
                (try clear hi)
                refine hK.out _ _ ⟨(zH ad.out 0).trans rfl, (zH ad.out 1).trans rfl, (zH af.out 0).trans rfl, (zH af.out 1).trans rfl⟩ (fun hHeld => ?_)
                clear hK K
                refine norm_ (a' := ?_) ?_ ?_
                rotate_left
                · show Act.put _ (some 10) _ = _
                  simp only [Act.put, List.setIfInBounds_toArray, List.set_cons_zero, List.set_cons_succ, i64_w, i32_w]
                  rfl
                exact norm_ (by first | (simp only [putAll, Act.put, List.setIfInBounds_toArray, List.set_cons_zero, List.set_cons_succ]; done) | (simp only [putAll, Act.put, List.setIfInBounds_toArray, List.set_cons_zero, List.set_cons_succ]; rfl)) (hJ1_3_4_6 (aa) _ ⟨hHeld, (by (with_reducible repeat (first | refine zA ?_ _ | refine zC ?_ | refine zB ?_ _)); exact ad.out), (by (with_reducible repeat (first | refine zA ?_ _ | refine zC ?_ | refine zB ?_ _)); exact af.out), (by (with_reducible repeat (first | refine zA ?_ _ | refine zC ?_ | refine zB ?_ _)); exact ah.out), ap.out, ao.out, ac.out, ai.out, ab.out, aj.out, (by repeat (first | (with_reducible first | exact HB.out | apply zG | apply zE | apply zF | refine zD ?_ ak.out | refine zD ?_ am.out | refine zD ?_ ao.out) | exact HB.out))⟩)
            · skip
              rintro _ w41 ⟨hS_, h0_, h1_, h2_⟩
              have n0_ : Aside0 (w41.heap[ae]? = some (.cells #[.int .i64 a0_0, .int .u64 a0_1] 26 (0, 0))) := ⟨h0_⟩
              have n1_ : Aside0 (w41.heap[ag]? = some (.cells #[.int .i64 a1_0, .int .u64 a1_1] 26 (0, 0))) := ⟨h1_⟩
              have n2_ : Aside0 (Below w.heap.size w w41) := ⟨h2_⟩
              clear ad
              clear af
              clear HB
              clear h0_ h1_ h2_
              have ad := n0_
              have af := n1_
              have HB := n2_
              clear n0_ n1_ n2_
              have hHeld : w41.cell? ⟨ae, 0, none⟩ = some (.int .i64 a0_0) ∧ w41.cell? ⟨ae, 1, none⟩ = some (.int .u64 a0_1) ∧ w41.cell? ⟨ag, 0, none⟩ = some (.int .i64 a1_0) ∧ w41.cell? ⟨ag, 1, none⟩ = some (.int .u64 a1_1) := hS_
              refine norm_ (a' := ?_) ?_ ?_
              rotate_left
              · simp only [putAll, Act.put, List.setIfInBounds_toArray, List.set_cons_zero, List.set_cons_succ]
                rfl
              refine two_ (i := 5) (j := 6) (Ni := some 11) (Nj := some 5) #[true, true, true, true, true, true, false, false] #[true, true, true, true, true, false, true, false] rfl rfl rfl rfl (two_of HT_.out (by kernel_rfl)) (by decide) (by decide) (fun K hK => ?_) (fun K hK => ?_)
              · skip
                refine goes_ Try.func35 (by kernel_rfl) rfl #[.agg #[.int .u64 t157, .int .u64 t158, .int .u64 t159, .int .u64 t160, .int .u64 t161, .int .u64 t162, .int .u64 t163, .int .u64 t164, .int .u64 t165, .int .u64 t166, .int .u64 t167, .int .u64 t168], .agg #[.int .u64 t181, .int .u64 t182, .int .u64 t183, .int .u64 t184, .int .u64 t185, .int .u64 t186, .int .u64 t187, .int .u64 t188, .int .u64 t189, .int .u64 t190, .int .u64 t191, .int .u64 t192]] (by rfl) rfl rfl (by (try simp only [List.map_toArray, List.map_cons, List.map_nil]); first | done | rfl | (simp only [List.length_drop, List.length_take]; rfl)) ?_
                with_reducible refine (Ref01.Plus.calls t157 t158 t159 t160 t161 t162 t163 t164 t165 t166 t167 t168 t181 t182 t183 t184 t185 t186 t187 t188 t189 t190 t191 t192 t193 t194 t195 t196 t197 t198 t199 t200 t201 t202 t203 t204 _ A6.out).mono ?_
                rintro e w42 ⟨rfl, hb⟩
                refine ⟨_, rfl, ?_⟩
                have n0_ := zK (zL (g := ae) (o := .cells #[.int .i64 a0_0, .int .u64 a0_1] 26 (0, 0)) (by (with_reducible repeat (first | refine zA ?_ _ | refine zC ?_ | refine zB ?_ _)); exact ad.out) hb)
                have n1_ := zK (zL (g := ag) (o := .cells #[.int .i64 a1_0, .int .u64 a1_1] 26 (0, 0)) (by (with_reducible repeat (first | refine zA ?_ _ | refine zC ?_ | refine zB ?_ _)); exact af.out) hb)
                have n2_ := zK (zI (by repeat (first | (with_reducible first | exact HB.out | apply zG | apply zE | apply zF | refine zD ?_ ak.out | refine zD ?_ am.out) | exact HB.out)) hb)
                clear ad
                clear af
                clear HB
                have ad := n0_
                have af := n1_
                have HB := n2_
                clear n0_ n1_ n2_
                (try clear hb)
                (try clear hb2)
                (try clear hk)
                (try clear hi)
                refine hK.out _ _ ⟨(zH ad.out 0).trans rfl, (zH ad.out 1).trans rfl, (zH af.out 0).trans rfl, (zH af.out 1).trans rfl⟩ (fun hHeld => ?_)
                clear hK K
                refine norm_ (a' := ?_) ?_ ?_
                rotate_left
                · show Act.put _ (some 11) _ = _
                  simp only [Act.put, List.setIfInBounds_toArray, List.set_cons_zero, List.set_cons_succ, i64_w, i32_w]
                  rfl
                exact norm_ (by first | (simp only [putAll, Act.put, List.setIfInBounds_toArray, List.set_cons_zero, List.set_cons_succ]; done) | (simp only [putAll, Act.put, List.setIfInBounds_toArray, List.set_cons_zero, List.set_cons_succ]; rfl)) (hJ1_3_4_5 () _ ⟨hHeld, (by (with_reducible repeat (first | refine zA ?_ _ | refine zC ?_ | refine zB ?_ _)); exact ad.out), (by (with_reducible repeat (first | refine zA ?_ _ | refine zC ?_ | refine zB ?_ _)); exact af.out), (by repeat (first | (with_reducible first | exact HB.out | apply zG | apply zE | apply zF | refine zD ?_ ak.out | refine zD ?_ am.out) | exact HB.out))⟩)
              · skip
                refine box_step ?hg (N := 5) ?hd (cs := #[.int .u64 0, .int .u64 0, .int .u64 0, .int .u64 0, .int .u64 0, .int .u64 0, .int .u64 0, .int .u64 0, .int .u64 0, .int .u64 0, .int .u64 0, .int .u64 0]) (t := 54) ?hr ?_; (case hd => rfl); (case hg => rfl); (case hr => first | (go_simp; done) | (go_simp; rfl))
                intro aa hg w42 hbox hb
                have n0_ := zK (zL (g := ae) (o := .cells #[.int .i64 a0_0, .int .u64 a0_1] 26 (0, 0)) (by (with_reducible repeat (first | refine zA ?_ _ | refine zC ?_ | refine zB ?_ _)); exact ad.out) hb)
                have n1_ := zK (zL (g := ag) (o := .cells #[.int .i64 a1_0, .int .u64 a1_1] 26 (0, 0)) (by (with_reducible repeat (first | refine zA ?_ _ | refine zC ?_ | refine zB ?_ _)); exact af.out) hb)
                have n2_ := zK (zI (by repeat (first | (with_reducible first | exact HB.out | apply zG | apply zE | apply zF | refine zD ?_ ak.out | refine zD ?_ am.out) | exact HB.out)) hb)
                have n3_ := zK (hbox)
                have n4_ := zK ((by rw [hg]; exact (zJ (by repeat (first | (with_reducible first | exact HB.out | apply zG | apply zE | apply zF | refine zD ?_ ak.out | refine zD ?_ am.out) | exact HB.out))) : w.heap.size ≤ aa))
                have n5_ := zK ((by rw [hg]; exact (zJ (by repeat (first | (with_reducible first | exact HB.out | apply zG | apply zE | apply zF | refine zD ?_ ak.out | refine zD ?_ am.out) | exact HB.out))) : w.heap.size ≤ aa))
                have n6_ := zK ((by rw [hg]; exact Nat.ne_of_lt (blk_lt (g := ae) (o := .cells #[.int .i64 a0_0, .int .u64 a0_1] 26 (0, 0)) (by (with_reducible repeat (first | refine zA ?_ _ | refine zC ?_ | refine zB ?_ _)); exact ad.out)) : ae ≠ aa))
                have n7_ := zK ((by rw [hg]; exact Nat.ne_of_gt (blk_lt (g := ae) (o := .cells #[.int .i64 a0_0, .int .u64 a0_1] 26 (0, 0)) (by (with_reducible repeat (first | refine zA ?_ _ | refine zC ?_ | refine zB ?_ _)); exact ad.out)) : aa ≠ ae))
                have n8_ := zK ((by rw [hg]; exact Nat.ne_of_lt (blk_lt (g := ag) (o := .cells #[.int .i64 a1_0, .int .u64 a1_1] 26 (0, 0)) (by (with_reducible repeat (first | refine zA ?_ _ | refine zC ?_ | refine zB ?_ _)); exact af.out)) : ag ≠ aa))
                have n9_ := zK ((by rw [hg]; exact Nat.ne_of_gt (blk_lt (g := ag) (o := .cells #[.int .i64 a1_0, .int .u64 a1_1] 26 (0, 0)) (by (with_reducible repeat (first | refine zA ?_ _ | refine zC ?_ | refine zB ?_ _)); exact af.out)) : aa ≠ ag))
                clear ad
                clear af
                clear HB
                have ad := n0_
                have af := n1_
                have HB := n2_
                have ah := n3_
                have ap := n4_
                have ao := n5_
                have ac := n6_
                have ai := n7_
                have ab := n8_
                have aj := n9_
                clear n0_ n1_ n2_ n3_ n4_ n5_ n6_ n7_ n8_ n9_
                clear hb hbox hg
                refine hK.out _ _ ⟨(zH ad.out 0).trans rfl, (zH ad.out 1).trans rfl, (zH af.out 0).trans rfl, (zH af.out 1).trans rfl⟩ (fun hHeld => ?_)
                clear hK K
                refine norm_ (a' := ?_) ?_ ?_
                rotate_left
                · show Act.put _ (some 5) _ = _
                  simp only [Act.put, List.setIfInBounds_toArray, List.set_cons_zero, List.set_cons_succ, i64_w, i32_w]
                  rfl
                exact norm_ (by first | (simp only [putAll, Act.put, List.setIfInBounds_toArray, List.set_cons_zero, List.set_cons_succ]; done) | (simp only [putAll, Act.put, List.setIfInBounds_toArray, List.set_cons_zero, List.set_cons_succ]; rfl)) (hJ1_3_4_6 (aa) _ ⟨hHeld, (by (with_reducible repeat (first | refine zA ?_ _ | refine zC ?_ | refine zB ?_ _)); exact ad.out), (by (with_reducible repeat (first | refine zA ?_ _ | refine zC ?_ | refine zB ?_ _)); exact af.out), (by (with_reducible repeat (first | refine zA ?_ _ | refine zC ?_ | refine zB ?_ _)); exact ah.out), ap.out, ao.out, ac.out, ai.out, ab.out, aj.out, (by repeat (first | (with_reducible first | exact HB.out | apply zG | apply zE | apply zF | refine zD ?_ ak.out | refine zD ?_ am.out | refine zD ?_ ao.out) | exact HB.out))⟩)
          · skip
            rintro aa w42 ⟨hS_, h0_, h1_, h2_, h3_, h4_, h5_, h6_, h7_, h8_, h9_⟩
            have n0_ : Aside0 (w42.heap[ae]? = some (.cells #[.int .i64 a0_0, .int .u64 a0_1] 26 (0, 0))) := ⟨h0_⟩
            have n1_ : Aside0 (w42.heap[ag]? = some (.cells #[.int .i64 a1_0, .int .u64 a1_1] 26 (0, 0))) := ⟨h1_⟩
            have n2_ : Aside0 (w42.heap[aa]? = some (.cells #[.int .u64 0, .int .u64 0, .int .u64 0, .int .u64 0, .int .u64 0, .int .u64 0, .int .u64 0, .int .u64 0, .int .u64 0, .int .u64 0, .int .u64 0, .int .u64 0] 54 (0, 0))) := ⟨h2_⟩
            have n3_ : Aside0 (w.heap.size ≤ aa) := ⟨h3_⟩
            have n4_ : Aside0 (w.heap.size ≤ aa) := ⟨h4_⟩
            have n5_ : Aside0 (ae ≠ aa) := ⟨h5_⟩
            have n6_ : Aside0 (aa ≠ ae) := ⟨h6_⟩
            have n7_ : Aside0 (ag ≠ aa) := ⟨h7_⟩
            have n8_ : Aside0 (aa ≠ ag) := ⟨h8_⟩
            have n9_ : Aside0 (Below w.heap.size w w42) := ⟨h9_⟩
            clear ad
            clear af
            clear HB
            clear h0_ h1_ h2_ h3_ h4_ h5_ h6_ h7_ h8_ h9_
            have ad := n0_
            have af := n1_
            have ah := n2_
            have ap := n3_
            have ao := n4_
            have ac := n5_
            have ai := n6_
            have ab := n7_
            have aj := n8_
            have HB := n9_
            clear n0_ n1_ n2_ n3_ n4_ n5_ n6_ n7_ n8_ n9_
            have hHeld : w42.cell? ⟨ae, 0, none⟩ = some (.int .i64 a0_0) ∧ w42.cell? ⟨ae, 1, none⟩ = some (.int .u64 a0_1) ∧ w42.cell? ⟨ag, 0, none⟩ = some (.int .i64 a1_0) ∧ w42.cell? ⟨ag, 1, none⟩ = some (.int .u64 a1_1) := hS_
            refine norm_ (a' := ?_) ?_ ?_
            rotate_left
            · simp only [putAll, Act.put, List.setIfInBounds_toArray, List.set_cons_zero, List.set_cons_succ]
              rfl
            refine one_ (i := 5) (N := some 11) #[true, true, true, true, true, true, true, false] rfl rfl (one_of HT_.out (by kernel_rfl)) (by decide) (fun K hK => ?_)
            refine goes_ Try.func35 (by kernel_rfl) rfl #[.agg #[.int .u64 t157, .int .u64 t158, .int .u64 t159, .int .u64 t160, .int .u64 t161, .int .u64 t162, .int .u64 t163, .int .u64 t164, .int .u64 t165, .int .u64 t166, .int .u64 t167, .int .u64 t168], .agg #[.int .u64 t181, .int .u64 t182, .int .u64 t183, .int .u64 t184, .int .u64 t185, .int .u64 t186, .int .u64 t187, .int .u64 t188, .int .u64 t189, .int .u64 t190, .int .u64 t191, .int .u64 t192]] (by rfl) rfl rfl (by (try simp only [List.map_toArray, List.map_cons, List.map_nil]); first | done | rfl | (simp only [List.length_drop, List.length_take]; rfl)) ?_
            with_reducible refine (Ref01.Plus.calls t157 t158 t159 t160 t161 t162 t163 t164 t165 t166 t167 t168 t181 t182 t183 t184 t185 t186 t187 t188 t189 t190 t191 t192 t193 t194 t195 t196 t197 t198 t199 t200 t201 t202 t203 t204 _ A6.out).mono ?_
            rintro e w43 ⟨rfl, hb⟩
            refine ⟨_, rfl, ?_⟩
            have n0_ := zK (zL (g := ae) (o := .cells #[.int .i64 a0_0, .int .u64 a0_1] 26 (0, 0)) (by (with_reducible repeat (first | refine zA ?_ _ | refine zC ?_ | refine zB ?_ _)); exact ad.out) hb)
            have n1_ := zK (zL (g := ag) (o := .cells #[.int .i64 a1_0, .int .u64 a1_1] 26 (0, 0)) (by (with_reducible repeat (first | refine zA ?_ _ | refine zC ?_ | refine zB ?_ _)); exact af.out) hb)
            have n2_ := zK (zL (g := aa) (o := .cells #[.int .u64 0, .int .u64 0, .int .u64 0, .int .u64 0, .int .u64 0, .int .u64 0, .int .u64 0, .int .u64 0, .int .u64 0, .int .u64 0, .int .u64 0, .int .u64 0] 54 (0, 0)) (by (with_reducible repeat (first | refine zA ?_ _ | refine zC ?_ | refine zB ?_ _)); exact ah.out) hb)
            have n3_ := zK (zI (by repeat (first | (with_reducible first | exact HB.out | apply zG | apply zE | apply zF | refine zD ?_ ak.out | refine zD ?_ am.out | refine zD ?_ ao.out) | exact HB.out)) hb)
            clear ad
            clear af
            clear ah
            clear HB
            have ad := n0_
            have af := n1_
            have ah := n2_
            have HB := n3_
            clear n0_ n1_ n2_ n3_
            (try clear hb)
            (try clear hb2)
            (try clear hk)
            (try clear hi)
            refine hK.out _ _ ⟨(zH ad.out 0).trans rfl, (zH ad.out 1).trans rfl, (zH af.out 0).trans rfl, (zH af.out 1).trans rfl⟩ (fun hHeld => ?_)
            clear hK K
            refine norm_ (a' := ?_) ?_ ?_
            rotate_left
            · show Act.put _ (some 11) _ = _
              simp only [Act.put, List.setIfInBounds_toArray, List.set_cons_zero, List.set_cons_succ, i64_w, i32_w]
              rfl
            exact norm_ (by first | (simp only [putAll, Act.put, List.setIfInBounds_toArray, List.set_cons_zero, List.set_cons_succ]; done) | (simp only [putAll, Act.put, List.setIfInBounds_toArray, List.set_cons_zero, List.set_cons_succ]; rfl)) (hJ1_3_4_5_6 (aa) _ ⟨hHeld, (by (with_reducible repeat (first | refine zA ?_ _ | refine zC ?_ | refine zB ?_ _)); exact ad.out), (by (with_reducible repeat (first | refine zA ?_ _ | refine zC ?_ | refine zB ?_ _)); exact af.out), (by (with_reducible repeat (first | refine zA ?_ _ | refine zC ?_ | refine zB ?_ _)); exact ah.out), ap.out, ao.out, ac.out, ai.out, ab.out, aj.out, (by repeat (first | (with_reducible first | exact HB.out | apply zG | apply zE | apply zF | refine zD ?_ ak.out | refine zD ?_ am.out | refine zD ?_ ao.out) | exact HB.out))⟩)
        · skip
          rintro _ w42 ⟨hS_, h0_, h1_, h2_⟩
          have n0_ : Aside0 (w42.heap[ae]? = some (.cells #[.int .i64 a0_0, .int .u64 a0_1] 26 (0, 0))) := ⟨h0_⟩
          have n1_ : Aside0 (w42.heap[ag]? = some (.cells #[.int .i64 a1_0, .int .u64 a1_1] 26 (0, 0))) := ⟨h1_⟩
          have n2_ : Aside0 (Below w.heap.size w w42) := ⟨h2_⟩
          clear ad
          clear af
          clear HB
          clear h0_ h1_ h2_
          have ad := n0_
          have af := n1_
          have HB := n2_
          clear n0_ n1_ n2_
          have hHeld : w42.cell? ⟨ae, 0, none⟩ = some (.int .i64 a0_0) ∧ w42.cell? ⟨ae, 1, none⟩ = some (.int .u64 a0_1) ∧ w42.cell? ⟨ag, 0, none⟩ = some (.int .i64 a1_0) ∧ w42.cell? ⟨ag, 1, none⟩ = some (.int .u64 a1_1) := hS_
          refine norm_ (a' := ?_) ?_ ?_
          rotate_left
          · simp only [putAll, Act.put, List.setIfInBounds_toArray, List.set_cons_zero, List.set_cons_succ]
            rfl
          refine one_ (i := 6) (N := some 5) #[true, true, true, true, true, true, true, false] rfl rfl (one_of HT_.out (by kernel_rfl)) (by decide) (fun K hK => ?_)
          refine box_step ?hg (N := 5) ?hd (cs := #[.int .u64 0, .int .u64 0, .int .u64 0, .int .u64 0, .int .u64 0, .int .u64 0, .int .u64 0, .int .u64 0, .int .u64 0, .int .u64 0, .int .u64 0, .int .u64 0]) (t := 54) ?hr ?_; (case hd => rfl); (case hg => rfl); (case hr => first | (go_simp; done) | (go_simp; rfl))
          intro aa hg w43 hbox hb
          have n0_ := zK (zL (g := ae) (o := .cells #[.int .i64 a0_0, .int .u64 a0_1] 26 (0, 0)) (by (with_reducible repeat (first | refine zA ?_ _ | refine zC ?_ | refine zB ?_ _)); exact ad.out) hb)
          have n1_ := zK (zL (g := ag) (o := .cells #[.int .i64 a1_0, .int .u64 a1_1] 26 (0, 0)) (by (with_reducible repeat (first | refine zA ?_ _ | refine zC ?_ | refine zB ?_ _)); exact af.out) hb)
          have n2_ := zK (zI (by repeat (first | (with_reducible first | exact HB.out | apply zG | apply zE | apply zF | refine zD ?_ ak.out | refine zD ?_ am.out) | exact HB.out)) hb)
          have n3_ := zK (hbox)
          have n4_ := zK ((by rw [hg]; exact (zJ (by repeat (first | (with_reducible first | exact HB.out | apply zG | apply zE | apply zF | refine zD ?_ ak.out | refine zD ?_ am.out) | exact HB.out))) : w.heap.size ≤ aa))
          have n5_ := zK ((by rw [hg]; exact (zJ (by repeat (first | (with_reducible first | exact HB.out | apply zG | apply zE | apply zF | refine zD ?_ ak.out | refine zD ?_ am.out) | exact HB.out))) : w.heap.size ≤ aa))
          have n6_ := zK ((by rw [hg]; exact Nat.ne_of_lt (blk_lt (g := ae) (o := .cells #[.int .i64 a0_0, .int .u64 a0_1] 26 (0, 0)) (by (with_reducible repeat (first | refine zA ?_ _ | refine zC ?_ | refine zB ?_ _)); exact ad.out)) : ae ≠ aa))
          have n7_ := zK ((by rw [hg]; exact Nat.ne_of_gt (blk_lt (g := ae) (o := .cells #[.int .i64 a0_0, .int .u64 a0_1] 26 (0, 0)) (by (with_reducible repeat (first | refine zA ?_ _ | refine zC ?_ | refine zB ?_ _)); exact ad.out)) : aa ≠ ae))
          have n8_ := zK ((by rw [hg]; exact Nat.ne_of_lt (blk_lt (g := ag) (o := .cells #[.int .i64 a1_0, .int .u64 a1_1] 26 (0, 0)) (by (with_reducible repeat (first | refine zA ?_ _ | refine zC ?_ | refine zB ?_ _)); exact af.out)) : ag ≠ aa))
          have n9_ := zK ((by rw [hg]; exact Nat.ne_of_gt (blk_lt (g := ag) (o := .cells #[.int .i64 a1_0, .int .u64 a1_1] 26 (0, 0)) (by (with_reducible repeat (first | refine zA ?_ _ | refine zC ?_ | refine zB ?_ _)); exact af.out)) : aa ≠ ag))
          clear ad
          clear af
          clear HB
          have ad := n0_
          have af := n1_
          have HB := n2_
          have ah := n3_
          have ap := n4_
          have ao := n5_
          have ac := n6_
          have ai := n7_
          have ab := n8_
          have aj := n9_
          clear n0_ n1_ n2_ n3_ n4_ n5_ n6_ n7_ n8_ n9_
          clear hb hbox hg
          refine hK.out _ _ ⟨(zH ad.out 0).trans rfl, (zH ad.out 1).trans rfl, (zH af.out 0).trans rfl, (zH af.out 1).trans rfl⟩ (fun hHeld => ?_)
          clear hK K
          refine norm_ (a' := ?_) ?_ ?_
          rotate_left
          · show Act.put _ (some 5) _ = _
            simp only [Act.put, List.setIfInBounds_toArray, List.set_cons_zero, List.set_cons_succ, i64_w, i32_w]
            rfl
          exact norm_ (by first | (simp only [putAll, Act.put, List.setIfInBounds_toArray, List.set_cons_zero, List.set_cons_succ]; done) | (simp only [putAll, Act.put, List.setIfInBounds_toArray, List.set_cons_zero, List.set_cons_succ]; rfl)) (hJ1_3_4_5_6 (aa) _ ⟨hHeld, (by (with_reducible repeat (first | refine zA ?_ _ | refine zC ?_ | refine zB ?_ _)); exact ad.out), (by (with_reducible repeat (first | refine zA ?_ _ | refine zC ?_ | refine zB ?_ _)); exact af.out), (by (with_reducible repeat (first | refine zA ?_ _ | refine zC ?_ | refine zB ?_ _)); exact ah.out), ap.out, ao.out, ac.out, ai.out, ab.out, aj.out, (by repeat (first | (with_reducible first | exact HB.out | apply zG | apply zE | apply zF | refine zD ?_ ak.out | refine zD ?_ am.out | refine zD ?_ ao.out) | exact HB.out))⟩)
      rintro aa w43 ⟨hS_, h0_, h1_, h2_, h3_, h4_, h5_, h6_, h7_, h8_, h9_⟩
      have n0_ : Aside0 (w43.heap[ae]? = some (.cells #[.int .i64 a0_0, .int .u64 a0_1] 26 (0, 0))) := ⟨h0_⟩
      have n1_ : Aside0 (w43.heap[ag]? = some (.cells #[.int .i64 a1_0, .int .u64 a1_1] 26 (0, 0))) := ⟨h1_⟩
      have n2_ : Aside0 (w43.heap[aa]? = some (.cells #[.int .u64 0, .int .u64 0, .int .u64 0, .int .u64 0, .int .u64 0, .int .u64 0, .int .u64 0, .int .u64 0, .int .u64 0, .int .u64 0, .int .u64 0, .int .u64 0] 54 (0, 0))) := ⟨h2_⟩
      have n3_ : Aside0 (w.heap.size ≤ aa) := ⟨h3_⟩
      have n4_ : Aside0 (w.heap.size ≤ aa) := ⟨h4_⟩
      have n5_ : Aside0 (ae ≠ aa) := ⟨h5_⟩
      have n6_ : Aside0 (aa ≠ ae) := ⟨h6_⟩
      have n7_ : Aside0 (ag ≠ aa) := ⟨h7_⟩
      have n8_ : Aside0 (aa ≠ ag) := ⟨h8_⟩
      have n9_ : Aside0 (Below w.heap.size w w43) := ⟨h9_⟩
      clear ad
      clear af
      clear HB
      clear h0_ h1_ h2_ h3_ h4_ h5_ h6_ h7_ h8_ h9_
      have ad := n0_
      have af := n1_
      have ah := n2_
      have ap := n3_
      have ao := n4_
      have ac := n5_
      have ai := n6_
      have ab := n7_
      have aj := n8_
      have HB := n9_
      clear n0_ n1_ n2_ n3_ n4_ n5_ n6_ n7_ n8_ n9_
      have hHeld : w43.cell? ⟨ae, 0, none⟩ = some (.int .i64 a0_0) ∧ w43.cell? ⟨ae, 1, none⟩ = some (.int .u64 a0_1) ∧ w43.cell? ⟨ag, 0, none⟩ = some (.int .i64 a1_0) ∧ w43.cell? ⟨ag, 1, none⟩ = some (.int .u64 a1_1) := hS_
      refine norm_ (a' := ?_) ?_ ?_
      rotate_left
      · simp only [putAll, Act.put, List.setIfInBounds_toArray, List.set_cons_zero, List.set_cons_succ]
        rfl
      refine one_ (i := 7) (N := none) #[true, true, true, true, true, true, true, true] rfl rfl (one_of HT_.out (by kernel_rfl)) (by decide) (fun K hK => ?_)
      have hs44 : w43.cell? ⟨aa, 0, none⟩ = some (.int .u64 0) := (zH ah.out 0).trans rfl
      have hfs44 := blk_frozen ah.out 0
      have hns44_0 := ac.out
      have hns44_1 := ab.out
      have hms44_0 := ai.out
      have hms44_1 := aj.out
      have hs45 : w43.cell? ⟨aa, 1, none⟩ = some (.int .u64 0) := (zH ah.out 1).trans rfl
      have hfs45 := blk_frozen ah.out 1
      have hns45_0 := ac.out
      have hns45_1 := ab.out
      have hms45_0 := ai.out
      have hms45_1 := aj.out
      have hs46 : w43.cell? ⟨aa, 2, none⟩ = some (.int .u64 0) := (zH ah.out 2).trans rfl
      have hfs46 := blk_frozen ah.out 2
      have hns46_0 := ac.out
      have hns46_1 := ab.out
      have hms46_0 := ai.out
      have hms46_1 := aj.out
      have hs47 : w43.cell? ⟨aa, 3, none⟩ = some (.int .u64 0) := (zH ah.out 3).trans rfl
      have hfs47 := blk_frozen ah.out 3
      have hns47_0 := ac.out
      have hns47_1 := ab.out
      have hms47_0 := ai.out
      have hms47_1 := aj.out
      have hs48 : w43.cell? ⟨aa, 4, none⟩ = some (.int .u64 0) := (zH ah.out 4).trans rfl
      have hfs48 := blk_frozen ah.out 4
      have hns48_0 := ac.out
      have hns48_1 := ab.out
      have hms48_0 := ai.out
      have hms48_1 := aj.out
      have hs49 : w43.cell? ⟨aa, 5, none⟩ = some (.int .u64 0) := (zH ah.out 5).trans rfl
      have hfs49 := blk_frozen ah.out 5
      have hns49_0 := ac.out
      have hns49_1 := ab.out
      have hms49_0 := ai.out
      have hms49_1 := aj.out
      have hs50 : w43.cell? ⟨aa, 6, none⟩ = some (.int .u64 0) := (zH ah.out 6).trans rfl
      have hfs50 := blk_frozen ah.out 6
      have hns50_0 := ac.out
      have hns50_1 := ab.out
      have hms50_0 := ai.out
      have hms50_1 := aj.out
      have hs51 : w43.cell? ⟨aa, 7, none⟩ = some (.int .u64 0) := (zH ah.out 7).trans rfl
      have hfs51 := blk_frozen ah.out 7
      have hns51_0 := ac.out
      have hns51_1 := ab.out
      have hms51_0 := ai.out
      have hms51_1 := aj.out
      have hs52 : w43.cell? ⟨aa, 8, none⟩ = some (.int .u64 0) := (zH ah.out 8).trans rfl
      have hfs52 := blk_frozen ah.out 8
      have hns52_0 := ac.out
      have hns52_1 := ab.out
      have hms52_0 := ai.out
      have hms52_1 := aj.out
      have hs53 : w43.cell? ⟨aa, 9, none⟩ = some (.int .u64 0) := (zH ah.out 9).trans rfl
      have hfs53 := blk_frozen ah.out 9
      have hns53_0 := ac.out
      have hns53_1 := ab.out
      have hms53_0 := ai.out
      have hms53_1 := aj.out
      have hs54 : w43.cell? ⟨aa, 10, none⟩ = some (.int .u64 0) := (zH ah.out 10).trans rfl
      have hfs54 := blk_frozen ah.out 10
      have hns54_0 := ac.out
      have hns54_1 := ab.out
      have hms54_0 := ai.out
      have hms54_1 := aj.out
      have hs55 : w43.cell? ⟨aa, 11, none⟩ = some (.int .u64 0) := (zH ah.out 11).trans rfl
      have hfs55 := blk_frozen ah.out 11
      have hns55_0 := ac.out
      have hns55_1 := ab.out
      have hms55_0 := ai.out
      have hms55_1 := aj.out
      refine skip_ (w1 := ?_) (by rfl) rfl ?_ ?_
      rotate_left
      · go_simp
        rfl
      refine hK.out _ _ ⟨((cell_far (p := ⟨aa, _, none⟩) ac.out _).trans (((cell_far (p := ⟨aa, _, none⟩) ac.out _).trans (((cell_far (p := ⟨aa, _, none⟩) ac.out _).trans (((cell_far (p := ⟨aa, _, none⟩) ac.out _).trans (((cell_far (p := ⟨aa, _, none⟩) ac.out _).trans (((cell_far (p := ⟨aa, _, none⟩) ac.out _).trans (((cell_far (p := ⟨aa, _, none⟩) ac.out _).trans (((cell_far (p := ⟨aa, _, none⟩) ac.out _).trans (((cell_far (p := ⟨aa, _, none⟩) ac.out _).trans (((cell_far (p := ⟨aa, _, none⟩) ac.out _).trans (((cell_far (p := ⟨aa, _, none⟩) ac.out _).trans (((cell_far (p := ⟨aa, _, none⟩) ac.out _).trans (hHeld.1)))))))))))))))))))))))), ((cell_far (p := ⟨aa, _, none⟩) ac.out _).trans (((cell_far (p := ⟨aa, _, none⟩) ac.out _).trans (((cell_far (p := ⟨aa, _, none⟩) ac.out _).trans (((cell_far (p := ⟨aa, _, none⟩) ac.out _).trans (((cell_far (p := ⟨aa, _, none⟩) ac.out _).trans (((cell_far (p := ⟨aa, _, none⟩) ac.out _).trans (((cell_far (p := ⟨aa, _, none⟩) ac.out _).trans (((cell_far (p := ⟨aa, _, none⟩) ac.out _).trans (((cell_far (p := ⟨aa, _, none⟩) ac.out _).trans (((cell_far (p := ⟨aa, _, none⟩) ac.out _).trans (((cell_far (p := ⟨aa, _, none⟩) ac.out _).trans (((cell_far (p := ⟨aa, _, none⟩) ac.out _).trans (hHeld.2.1)))))))))))))))))))))))), ((cell_far (p := ⟨aa, _, none⟩) ab.out _).trans (((cell_far (p := ⟨aa, _, none⟩) ab.out _).trans (((cell_far (p := ⟨aa, _, none⟩) ab.out _).trans (((cell_far (p := ⟨aa, _, none⟩) ab.out _).trans (((cell_far (p := ⟨aa, _, none⟩) ab.out _).trans (((cell_far (p := ⟨aa, _, none⟩) ab.out _).trans (((cell_far (p := ⟨aa, _, none⟩) ab.out _).trans (((cell_far (p := ⟨aa, _, none⟩) ab.out _).trans (((cell_far (p := ⟨aa, _, none⟩) ab.out _).trans (((cell_far (p := ⟨aa, _, none⟩) ab.out _).trans (((cell_far (p := ⟨aa, _, none⟩) ab.out _).trans (((cell_far (p := ⟨aa, _, none⟩) ab.out _).trans (hHeld.2.2.1)))))))))))))))))))))))), ((cell_far (p := ⟨aa, _, none⟩) ab.out _).trans (((cell_far (p := ⟨aa, _, none⟩) ab.out _).trans (((cell_far (p := ⟨aa, _, none⟩) ab.out _).trans (((cell_far (p := ⟨aa, _, none⟩) ab.out _).trans (((cell_far (p := ⟨aa, _, none⟩) ab.out _).trans (((cell_far (p := ⟨aa, _, none⟩) ab.out _).trans (((cell_far (p := ⟨aa, _, none⟩) ab.out _).trans (((cell_far (p := ⟨aa, _, none⟩) ab.out _).trans (((cell_far (p := ⟨aa, _, none⟩) ab.out _).trans (((cell_far (p := ⟨aa, _, none⟩) ab.out _).trans (((cell_far (p := ⟨aa, _, none⟩) ab.out _).trans (((cell_far (p := ⟨aa, _, none⟩) ab.out _).trans (hHeld.2.2.2))))))))))))))))))))))))⟩ (fun hHeld => ?_)
      clear hK K
      refine done_ (done_of HT_.out (by kernel_rfl)) ?_
      have c2 := ai.out
      have cy := ac.out
      have cz := aj.out
      have c5 := ab.out
      have cq : w43.cell? ⟨aa, 0, none⟩ = some (.int .u64 0) := (zH ah.out 0).trans rfl
      have a5 : w43.cell? ⟨aa, 1, none⟩ = some (.int .u64 0) := (zH ah.out 1).trans rfl
      have br : w43.cell? ⟨aa, 2, none⟩ = some (.int .u64 0) := (zH ah.out 2).trans rfl
      have bm : w43.cell? ⟨aa, 3, none⟩ = some (.int .u64 0) := (zH ah.out 3).trans rfl
      have bG : w43.cell? ⟨aa, 4, none⟩ = some (.int .u64 0) := (zH ah.out 4).trans rfl
      have cw : w43.cell? ⟨aa, 5, none⟩ = some (.int .u64 0) := (zH ah.out 5).trans rfl
      have bB : w43.cell? ⟨aa, 6, none⟩ = some (.int .u64 0) := (zH ah.out 6).trans rfl
      have bu : w43.cell? ⟨aa, 7, none⟩ = some (.int .u64 0) := (zH ah.out 7).trans rfl
      have cp : w43.cell? ⟨aa, 8, none⟩ = some (.int .u64 0) := (zH ah.out 8).trans rfl
      have bh : w43.cell? ⟨aa, 9, none⟩ = some (.int .u64 0) := (zH ah.out 9).trans rfl
      have aO : w43.cell? ⟨aa, 10, none⟩ = some (.int .u64 0) := (zH ah.out 10).trans rfl
      have aA : w43.cell? ⟨aa, 11, none⟩ = some (.int .u64 0) := (zH ah.out 11).trans rfl
      have bY := blk_frozen ah.out 0
      have a6 := blk_frozen ah.out 1
      have bp := blk_frozen ah.out 2
      have b3 := blk_frozen ah.out 3
      have bd := blk_frozen ah.out 4
      have cd := blk_frozen ah.out 5
      have ch := blk_frozen ah.out 6
      have b1 := blk_frozen ah.out 7
      have bT := blk_frozen ah.out 8
      have aW := blk_frozen ah.out 9
      have aH := blk_frozen ah.out 10
      have aK := blk_frozen ah.out 11
      try go_wp2_with (first | ((with_reducible refine gate_callee (f := 39) rfl ?_); refine goesL_ (some 13) rfl rfl Try.func39 (by kernel_rfl) rfl #[.agg #[.int .u64 t193, .int .u64 t194, .int .u64 t195, .int .u64 t196, .int .u64 t197, .int .u64 t198, .int .u64 t199, .int .u64 t200, .int .u64 t201, .int .u64 t202, .int .u64 t203, .int .u64 t204]] rfl (by (try simp only [List.map_toArray, List.map_cons, List.map_nil]); first | done | rfl | (simp only [List.length_drop, List.length_take]; rfl)) ?_; (with_reducible refine (Ref01.IsBelow.calls t193 t194 t195 t196 t197 t198 t199 t200 t201 t202 t203 t204 false _ A7.out).mono ?_); rintro e w59 ⟨rfl, hb⟩; refine ⟨_, rfl, ?_⟩; have n0_ := zK (zL (g := ae) (o := .cells #[.int .i64 a0_0, .int .u64 a0_1] 26 (0, 0)) (by (with_reducible repeat (first | refine zA ?_ _ | refine zC ?_ | refine zB ?_ _)); refine blk_far ?_ ac.out _; (with_reducible repeat (first | refine zA ?_ _ | refine zC ?_ | refine zB ?_ _)); refine blk_far ?_ ac.out _; (with_reducible repeat (first | refine zA ?_ _ | refine zC ?_ | refine zB ?_ _)); refine blk_far ?_ ac.out _; (with_reducible repeat (first | refine zA ?_ _ | refine zC ?_ | refine zB ?_ _)); refine blk_far ?_ ac.out _; (with_reducible repeat (first | refine zA ?_ _ | refine zC ?_ | refine zB ?_ _)); refine blk_far ?_ ac.out _; (with_reducible repeat (first | refine zA ?_ _ | refine zC ?_ | refine zB ?_ _)); refine blk_far ?_ ac.out _; (with_reducible repeat (first | refine zA ?_ _ | refine zC ?_ | refine zB ?_ _)); refine blk_far ?_ ac.out _; (with_reducible repeat (first | refine zA ?_ _ | refine zC ?_ | refine zB ?_ _)); refine blk_far ?_ ac.out _; (with_reducible repeat (first | refine zA ?_ _ | refine zC ?_ | refine zB ?_ _)); refine blk_far ?_ ac.out _; (with_reducible repeat (first | refine zA ?_ _ | refine zC ?_ | refine zB ?_ _)); refine blk_far ?_ ac.out _; (with_reducible repeat (first | refine zA ?_ _ | refine zC ?_ | refine zB ?_ _)); refine blk_far ?_ ac.out _; (with_reducible repeat (first | refine zA ?_ _ | refine zC ?_ | refine zB ?_ _)); refine blk_far ?_ ac.out _; (with_reducible repeat (first | refine zA ?_ _ | refine zC ?_ | refine zB ?_ _)); exact ad.out) hb); have n1_ := zK (zL (g := ag) (o := .cells #[.int .i64 a1_0, .int .u64 a1_1] 26 (0, 0)) (by (with_reducible repeat (first | refine zA ?_ _ | refine zC ?_ | refine zB ?_ _)); refine blk_far ?_ ab.out _; (with_reducible repeat (first | refine zA ?_ _ | refine zC ?_ | refine zB ?_ _)); refine blk_far ?_ ab.out _; (with_reducible repeat (first | refine zA ?_ _ | refine zC ?_ | refine zB ?_ _)); refine blk_far ?_ ab.out _; (with_reducible repeat (first | refine zA ?_ _ | refine zC ?_ | refine zB ?_ _)); refine blk_far ?_ ab.out _; (with_reducible repeat (first | refine zA ?_ _ | refine zC ?_ | refine zB ?_ _)); refine blk_far ?_ ab.out _; (with_reducible repeat (first | refine zA ?_ _ | refine zC ?_ | refine zB ?_ _)); refine blk_far ?_ ab.out _; (with_reducible repeat (first | refine zA ?_ _ | refine zC ?_ | refine zB ?_ _)); refine blk_far ?_ ab.out _; (with_reducible repeat (first | refine zA ?_ _ | refine zC ?_ | refine zB ?_ _)); refine blk_far ?_ ab.out _; (with_reducible repeat (first | refine zA ?_ _ | refine zC ?_ | refine zB ?_ _)); refine blk_far ?_ ab.out _; (with_reducible repeat (first | refine zA ?_ _ | refine zC ?_ | refine zB ?_ _)); refine blk_far ?_ ab.out _; (with_reducible repeat (first | refine zA ?_ _ | refine zC ?_ | refine zB ?_ _)); refine blk_far ?_ ab.out _; (with_reducible repeat (first | refine zA ?_ _ | refine zC ?_ | refine zB ?_ _)); refine blk_far ?_ ab.out _; (with_reducible repeat (first | refine zA ?_ _ | refine zC ?_ | refine zB ?_ _)); exact af.out) hb); have n2_ := zK (zL (g := aa) (o := .cells #[.int .u64 t193, .int .u64 t194, .int .u64 t195, .int .u64 t196, .int .u64 t197, .int .u64 t198, .int .u64 t199, .int .u64 t200, .int .u64 t201, .int .u64 t202, .int .u64 t203, .int .u64 t204] 54 (0, 0)) (by (with_reducible repeat (first | refine zA ?_ _ | refine zC ?_ | refine zB ?_ _)); refine blk_put (cs := #[.int .u64 t193, .int .u64 t194, .int .u64 t195, .int .u64 t196, .int .u64 t197, .int .u64 t198, .int .u64 t199, .int .u64 t200, .int .u64 t201, .int .u64 t202, .int .u64 t203, .int .u64 0]) ?_ 11 _ rfl; (with_reducible repeat (first | refine zA ?_ _ | refine zC ?_ | refine zB ?_ _)); refine blk_put (cs := #[.int .u64 t193, .int .u64 t194, .int .u64 t195, .int .u64 t196, .int .u64 t197, .int .u64 t198, .int .u64 t199, .int .u64 t200, .int .u64 t201, .int .u64 t202, .int .u64 0, .int .u64 0]) ?_ 10 _ rfl; (with_reducible repeat (first | refine zA ?_ _ | refine zC ?_ | refine zB ?_ _)); refine blk_put (cs := #[.int .u64 t193, .int .u64 t194, .int .u64 t195, .int .u64 t196, .int .u64 t197, .int .u64 t198, .int .u64 t199, .int .u64 t200, .int .u64 t201, .int .u64 0, .int .u64 0, .int .u64 0]) ?_ 9 _ rfl; (with_reducible repeat (first | refine zA ?_ _ | refine zC ?_ | refine zB ?_ _)); refine blk_put (cs := #[.int .u64 t193, .int .u64 t194, .int .u64 t195, .int .u64 t196, .int .u64 t197, .int .u64 t198, .int .u64 t199, .int .u64 t200, .int .u64 0, .int .u64 0, .int .u64 0, .int .u64 0]) ?_ 8 _ rfl; (with_reducible repeat (first | refine zA ?_ _ | refine zC ?_ | refine zB ?_ _)); refine blk_put (cs := #[.int .u64 t193, .int .u64 t194, .int .u64 t195, .int .u64 t196, .int .u64 t197, .int .u64 t198, .int .u64 t199, .int .u64 0, .int .u64 0, .int .u64 0, .int .u64 0, .int .u64 0]) ?_ 7 _ rfl; (with_reducible repeat (first | refine zA ?_ _ | refine zC ?_ | refine zB ?_ _)); refine blk_put (cs := #[.int .u64 t193, .int .u64 t194, .int .u64 t195, .int .u64 t196, .int .u64 t197, .int .u64 t198, .int .u64 0, .int .u64 0, .int .u64 0, .int .u64 0, .int .u64 0, .int .u64 0]) ?_ 6 _ rfl; (with_reducible repeat (first | refine zA ?_ _ | refine zC ?_ | refine zB ?_ _)); refine blk_put (cs := #[.int .u64 t193, .int .u64 t194, .int .u64 t195, .int .u64 t196, .int .u64 t197, .int .u64 0, .int .u64 0, .int .u64 0, .int .u64 0, .int .u64 0, .int .u64 0, .int .u64 0]) ?_ 5 _ rfl; (with_reducible repeat (first | refine zA ?_ _ | refine zC ?_ | refine zB ?_ _)); refine blk_put (cs := #[.int .u64 t193, .int .u64 t194, .int .u64 t195, .int .u64 t196, .int .u64 0, .int .u64 0, .int .u64 0, .int .u64 0, .int .u64 0, .int .u64 0, .int .u64 0, .int .u64 0]) ?_ 4 _ rfl; (with_reducible repeat (first | refine zA ?_ _ | refine zC ?_ | refine zB ?_ _)); refine blk_put (cs := #[.int .u64 t193, .int .u64 t194, .int .u64 t195, .int .u64 0, .int .u64 0, .int .u64 0, .int .u64 0, .int .u64 0, .int .u64 0, .int .u64 0, .int .u64 0, .int .u64 0]) ?_ 3 _ rfl; (with_reducible repeat (first | refine zA ?_ _ | refine zC ?_ | refine zB ?_ _)); refine blk_put (cs := #[.int .u64 t193, .int .u64 t194, .int .u64 0, .int .u64 0, .int .u64 0, .int .u64 0, .int .u64 0, .int .u64 0, .int .u64 0, .int .u64 0, .int .u64 0, .int .u64 0]) ?_ 2 _ rfl; (with_reducible repeat (first | refine zA ?_ _ | refine zC ?_ | refine zB ?_ _)); refine blk_put (cs := #[.int .u64 t193, .int .u64 0, .int .u64 0, .int .u64 0, .int .u64 0, .int .u64 0, .int .u64 0, .int .u64 0, .int .u64 0, .int .u64 0, .int .u64 0, .int .u64 0]) ?_ 1 _ rfl; (with_reducible repeat (first | refine zA ?_ _ | refine zC ?_ | refine zB ?_ _)); refine blk_put (cs := #[.int .u64 0, .int .u64 0, .int .u64 0, .int .u64 0, .int .u64 0, .int .u64 0, .int .u64 0, .int .u64 0, .int .u64 0, .int .u64 0, .int .u64 0, .int .u64 0]) ?_ 0 _ rfl; (with_reducible repeat (first | refine zA ?_ _ | refine zC ?_ | refine zB ?_ _)); exact ah.out) hb); have n3_ := zK (zI (by repeat (first | (with_reducible first | exact HB.out | apply zG | apply zE | apply zF | refine zD ?_ ak.out | refine zD ?_ am.out | refine zD ?_ ao.out) | exact HB.out)) hb); clear ad; clear af; clear ah; clear HB; have ad := n0_; have af := n1_; have ah := n2_; have HB := n3_; clear n0_ n1_ n2_ n3_; (try clear hb); (try clear hb2); (try clear hk); (try clear hi); have bs : w59.cell? ⟨aa, 0, none⟩ = some (.int .u64 t193) := (zH ah.out 0).trans rfl; have ay : w59.cell? ⟨aa, 1, none⟩ = some (.int .u64 t194) := (zH ah.out 1).trans rfl; have b4 : w59.cell? ⟨aa, 2, none⟩ = some (.int .u64 t195) := (zH ah.out 2).trans rfl; have bF : w59.cell? ⟨aa, 3, none⟩ = some (.int .u64 t196) := (zH ah.out 3).trans rfl; have bS : w59.cell? ⟨aa, 4, none⟩ = some (.int .u64 t197) := (zH ah.out 4).trans rfl; have bE : w59.cell? ⟨aa, 5, none⟩ = some (.int .u64 t198) := (zH ah.out 5).trans rfl; have aU : w59.cell? ⟨aa, 6, none⟩ = some (.int .u64 t199) := (zH ah.out 6).trans rfl; have bV : w59.cell? ⟨aa, 7, none⟩ = some (.int .u64 t200) := (zH ah.out 7).trans rfl; have bX : w59.cell? ⟨aa, 8, none⟩ = some (.int .u64 t201) := (zH ah.out 8).trans rfl; have cg : w59.cell? ⟨aa, 9, none⟩ = some (.int .u64 t202) := (zH ah.out 9).trans rfl; have aQ : w59.cell? ⟨aa, 10, none⟩ = some (.int .u64 t203) := (zH ah.out 10).trans rfl; have aL : w59.cell? ⟨aa, 11, none⟩ = some (.int .u64 t204) := (zH ah.out 11).trans rfl; have b7 := blk_frozen ah.out 0; have az := blk_frozen ah.out 1; have bw := blk_frozen ah.out 2; have b8 := blk_frozen ah.out 3; have cj := blk_frozen ah.out 4; have ca := blk_frozen ah.out 5; have cr := blk_frozen ah.out 6; have cl := blk_frozen ah.out 7; have cb := blk_frozen ah.out 8; have bQ := blk_frozen ah.out 9; have aS := blk_frozen ah.out 10; have aM := blk_frozen ah.out 11))
      go_ret
      exact ⟨by first | rfl | (simp [errW_none, errW_some] <;> rfl) | (simp [*, errW_none, errW_some] <;> rfl), by repeat (first | (with_reducible first | exact HB.out | apply zG | apply zE | apply zF | refine zD ?_ ak.out | refine zD ?_ am.out | refine zD ?_ ao.out) | exact HB.out)⟩
    · rw [if_neg c34] at H
      have c34b0 : (t193 == 0 && (t194 == 0 && (t195 == 0 && (t196 == 0 && (t197 == 0 && (t198 == 0 && (t199 == 0 && (t200 == 0 && (t201 == 0 && (t202 == 0 && (t203 == 0 && (t204 == 0)))))))))))) = false := by simpa using c34
      (try (have c34b1 : decide (t193 = 0 && (t194 == 0 && (t195 == 0 && (t196 == 0 && (t197 == 0 && (t198 == 0 && (t199 == 0 && (t200 == 0 && (t201 == 0 && (t202 == 0 && (t203 == 0 && (t204 == 0)))))))))))) = false := by simpa using c34))
      (try (have c34b2 : (t193 == 0 && (t194 == 0 && (t195 == 0 && (t196 == 0 && (t197 == 0 && (t198 == 0 && (t199 == 0 && (t200 == 0 && (t201 == 0 && (t202 == 0 && (t203 == 0 && (t204 == 0)))))))))))) = false := by simpa using c34))
      (try (have c34b3 : ¬ (t193 = 0 && (t194 == 0 && (t195 == 0 && (t196 == 0 && (t197 == 0 && (t198 == 0 && (t199 == 0 && (t200 == 0 && (t201 == 0 && (t202 == 0 && (t203 == 0 && (t204 == 0)))))))))))) := by simpa using c34))
      clear c34
      obtain rfl := Option.some.inj H
      go_enter Try.func26, Try.ntmps26
      try go_wp2_with (first | ((with_reducible refine gate_dst (N := 2) rfl ?_); refine box_event ?hg (N := 2) ?hd (cs := #[.int .i64 a0_0, .int .u64 a0_1]) (t := 26) ?hr ?_; (case hd => rfl); (case hg => rfl); (case hr => first | (go_simp; done) | (go_simp; rfl)); intro ae hg w61 hbox hb; have n0_ := zK (zI (by repeat (first | (with_reducible first | exact HB.out | apply zG | apply zE | apply zF) | exact HB.out)) hb); have n1_ := zK (hbox); have n2_ := zK ((by rw [hg]; exact (zJ (by repeat (first | (with_reducible first | exact HB.out | apply zG | apply zE | apply zF) | exact HB.out))) : w.heap.size ≤ ae)); have n3_ := zK ((by rw [hg]; exact (zJ (by repeat (first | (with_reducible first | exact HB.out | apply zG | apply zE | apply zF) | exact HB.out))) : w.heap.size ≤ ae)); clear HB; have HB := n0_; have ad := n1_; have a7 := n2_; have ak := n3_; clear n0_ n1_ n2_ n3_; clear hb hbox hg) | ((with_reducible refine gate_dst (N := 3) rfl ?_); refine box_event ?hg (N := 3) ?hd (cs := #[.int .i64 a1_0, .int .u64 a1_1]) (t := 26) ?hr ?_; (case hd => rfl); (case hg => rfl); (case hr => first | (go_simp; done) | (go_simp; rfl)); intro ag hg w62 hbox hb; have n0_ := zK (zL (g := ae) (o := .cells #[.int .i64 a0_0, .int .u64 a0_1] 26 (0, 0)) (by (with_reducible repeat (first | refine zA ?_ _ | refine zC ?_ | refine zB ?_ _)); exact ad.out) hb); have n1_ := zK (zI (by repeat (first | (with_reducible first | exact HB.out | apply zG | apply zE | apply zF | refine zD ?_ ak.out) | exact HB.out)) hb); have n2_ := zK (hbox); have n3_ := zK ((by rw [hg]; exact (zJ (by repeat (first | (with_reducible first | exact HB.out | apply zG | apply zE | apply zF | refine zD ?_ ak.out) | exact HB.out))) : w.heap.size ≤ ag)); have n4_ := zK ((by rw [hg]; exact (zJ (by repeat (first | (with_reducible first | exact HB.out | apply zG | apply zE | apply zF | refine zD ?_ ak.out) | exact HB.out))) : w.heap.size ≤ ag)); have n5_ := zK ((by rw [hg]; exact Nat.ne_of_lt (blk_lt (g := ae) (o := .cells #[.int .i64 a0_0, .int .u64 a0_1] 26 (0, 0)) (by (with_reducible repeat (first | refine zA ?_ _ | refine zC ?_ | refine zB ?_ _)); exact ad.out)) : ae ≠ ag)); have n6_ := zK ((by rw [hg]; exact Nat.ne_of_gt (blk_lt (g := ae) (o := .cells #[.int .i64 a0_0, .int .u64 a0_1] 26 (0, 0)) (by (with_reducible repeat (first | refine zA ?_ _ | refine zC ?_ | refine zB ?_ _)); exact ad.out)) : ag ≠ ae)); clear ad; clear HB; have ad := n0_; have HB := n1_; have af := n2_; have a8 := n3_; have am := n4_; have aw := n5_; have av := n6_; clear n0_ n1_ n2_ n3_ n4_ n5_ n6_; clear hb hbox hg))
      have n0_ := zK (zC ad.out)
      have n1_ := zK (zC af.out)
      have n2_ := zK (zF HB.out)
      clear ad
      clear af
      clear HB
      have ad := n0_
      have af := n1_
      have HB := n2_
      clear n0_ n1_ n2_
      refine start_ (n := 8) (S := fun w' => w'.cell? ⟨ae, 0, none⟩ = some (.int .i64 a0_0) ∧ w'.cell? ⟨ae, 1, none⟩ = some (.int .u64 a0_1) ∧ w'.cell? ⟨ag, 0, none⟩ = some (.int .i64 a1_0) ∧ w'.cell? ⟨ag, 1, none⟩ = some (.int .u64 a1_1)) (ds := []) #[false, false, false, false, false, false, false, false] (by kernel_rfl) rfl rfl ⟨(zH ad.out 0).trans rfl, (zH ad.out 1).trans rfl, (zH af.out 0).trans rfl, (zH af.out 1).trans rfl⟩ (fun hHeld => ?_); refine with_tabW octroiref01_Cmp.tab1 octroiref01_Cmp.bits1 (fun HT_ HW_ => ?_)
      generalize w62.drew = w63 at ad af HB hHeld ⊢
      refine take_ (i := 0) (N := some 6) (v := ?_) (a' := ?_) #[true, false, false, false, false, false, false, false] rfl rfl (take_ofW HT_.out HW_.out (by kernel_rfl)) (fun _ _ _ h => h) (Or.inl ⟨by rfl, ?_⟩) hHeld ?_ ?_
      rotate_left
      · rintro w' ⟨s0, s1, s2, s3⟩
        go_simp
        with_reducible rfl
      rotate_left
      · simp only [Act.put, List.setIfInBounds_toArray, List.set_cons_zero, List.set_cons_succ, i64_w, i32_w]
        rfl
      refine take_ (i := 2) (N := some 8) (v := ?_) (a' := ?_) #[true, false, true, false, false, false, false, false] rfl rfl (take_ofW HT_.out HW_.out (by kernel_rfl)) (fun _ _ _ h => h) (Or.inl ⟨by rfl, ?_⟩) hHeld ?_ ?_
      rotate_left
      · rintro w' ⟨s0, s1, s2, s3⟩
        go_simp
        with_reducible rfl
      rotate_left
      · simp only [Act.put, List.setIfInBounds_toArray, List.set_cons_zero, List.set_cons_succ, i64_w, i32_w]
        rfl
      refine join_ (σ := Nat) 1 #[true, true, true, true, true, true, true, false] (fun s_ => [(7, .agg #[.int .u64 t157, .int .u64 t158, .int .u64 t159, .int .u64 t160, .int .u64 t161, .int .u64 t162, .int .u64 t163, .int .u64 t164, .int .u64 t165, .int .u64 t166, .int .u64 t167, .int .u64 t168]), (9, .agg #[.int .u64 t169, .int .u64 t170, .int .u64 t171, .int .u64 t172, .int .u64 t173, .int .u64 t174, .int .u64 t175, .int .u64 t176, .int .u64 t177, .int .u64 t178, .int .u64 t179, .int .u64 t180]), (10, .agg #[.int .u64 t181, .int .u64 t182, .int .u64 t183, .int .u64 t184, .int .u64 t185, .int .u64 t186, .int .u64 t187, .int .u64 t188, .int .u64 t189, .int .u64 t190, .int .u64 t191, .int .u64 t192]), (11, .agg #[.int .u64 t193, .int .u64 t194, .int .u64 t195, .int .u64 t196, .int .u64 t197, .int .u64 t198, .int .u64 t199, .int .u64 t200, .int .u64 t201, .int .u64 t202, .int .u64 t203, .int .u64 t204]), (5, .pointer (some ⟨s_, 0, none⟩))]) (fun s_ w' => (w'.cell? ⟨ae, 0, none⟩ = some (.int .i64 a0_0) ∧ w'.cell? ⟨ae, 1, none⟩ = some (.int .u64 a0_1) ∧ w'.cell? ⟨ag, 0, none⟩ = some (.int .i64 a1_0) ∧ w'.cell? ⟨ag, 1, none⟩ = some (.int .u64 a1_1)) ∧ (w'.heap[ae]? = some (.cells #[.int .i64 a0_0, .int .u64 a0_1] 26 (0, 0))) ∧ (w'.heap[ag]? = some (.cells #[.int .i64 a1_0, .int .u64 a1_1] 26 (0, 0))) ∧ (w'.heap[s_]? = some (.cells #[.int .u64 0, .int .u64 0, .int .u64 0, .int .u64 0, .int .u64 0, .int .u64 0, .int .u64 0, .int .u64 0, .int .u64 0, .int .u64 0, .int .u64 0, .int .u64 0] 54 (0, 0))) ∧ (w.heap.size ≤ s_) ∧ (w.heap.size ≤ s_) ∧ (ae ≠ s_) ∧ (s_ ≠ ae) ∧ (ag ≠ s_) ∧ (s_ ≠ ag) ∧ (Below w.heap.size w w')) ?_ ?_
      rotate_left
      · intro hJ1_3_4_5_6
        refine join_ (σ := Unit) 2 #[true, true, true, true, true, true, false, false] (fun s_ => [(7, .agg #[.int .u64 t157, .int .u64 t158, .int .u64 t159, .int .u64 t160, .int .u64 t161, .int .u64 t162, .int .u64 t163, .int .u64 t164, .int .u64 t165, .int .u64 t166, .int .u64 t167, .int .u64 t168]), (9, .agg #[.int .u64 t169, .int .u64 t170, .int .u64 t171, .int .u64 t172, .int .u64 t173, .int .u64 t174, .int .u64 t175, .int .u64 t176, .int .u64 t177, .int .u64 t178, .int .u64 t179, .int .u64 t180]), (10, .agg #[.int .u64 t181, .int .u64 t182, .int .u64 t183, .int .u64 t184, .int .u64 t185, .int .u64 t186, .int .u64 t187, .int .u64 t188, .int .u64 t189, .int .u64 t190, .int .u64 t191, .int .u64 t192]), (11, .agg #[.int .u64 t193, .int .u64 t194, .int .u64 t195, .int .u64 t196, .int .u64 t197, .int .u64 t198, .int .u64 t199, .int .u64 t200, .int .u64 t201, .int .u64 t202, .int .u64 t203, .int .u64 t204])]) (fun s_ w' => (w'.cell? ⟨ae, 0, none⟩ = some (.int .i64 a0_0) ∧ w'.cell? ⟨ae, 1, none⟩ = some (.int .u64 a0_1) ∧ w'.cell? ⟨ag, 0, none⟩ = some (.int .i64 a1_0) ∧ w'.cell? ⟨ag, 1, none⟩ = some (.int .u64 a1_1)) ∧ (w'.heap[ae]? = some (.cells #[.int .i64 a0_0, .int .u64 a0_1] 26 (0, 0))) ∧ (w'.heap[ag]? = some (.cells #[.int .i64 a1_0, .int .u64 a1_1] 26 (0, 0))) ∧ (Below w.heap.size w w')) ?_ ?_
        rotate_left
        · intro hJ1_3_4_5
          refine join_ (σ := Nat) 2 #[true, true, true, true, true, false, true, false] (fun s_ => [(7, .agg #[.int .u64 t157, .int .u64 t158, .int .u64 t159, .int .u64 t160, .int .u64 t161, .int .u64 t162, .int .u64 t163, .int .u64 t164, .int .u64 t165, .int .u64 t166, .int .u64 t167, .int .u64 t168]), (9, .agg #[.int .u64 t169, .int .u64 t170, .int .u64 t171, .int .u64 t172, .int .u64 t173, .int .u64 t174, .int .u64 t175, .int .u64 t176, .int .u64 t177, .int .u64 t178, .int .u64 t179, .int .u64 t180]), (10, .agg #[.int .u64 t181, .int .u64 t182, .int .u64 t183, .int .u64 t184, .int .u64 t185, .int .u64 t186, .int .u64 t187, .int .u64 t188, .int .u64 t189, .int .u64 t190, .int .u64 t191, .int .u64 t192]), (5, .pointer (some ⟨s_, 0, none⟩))]) (fun s_ w' => (w'.cell? ⟨ae, 0, none⟩ = some (.int .i64 a0_0) ∧ w'.cell? ⟨ae, 1, none⟩ = some (.int .u64 a0_1) ∧ w'.cell? ⟨ag, 0, none⟩ = some (.int .i64 a1_0) ∧ w'.cell? ⟨ag, 1, none⟩ = some (.int .u64 a1_1)) ∧ (w'.heap[ae]? = some (.cells #[.int .i64 a0_0, .int .u64 a0_1] 26 (0, 0))) ∧ (w'.heap[ag]? = some (.cells #[.int .i64 a1_0, .int .u64 a1_1] 26 (0, 0))) ∧ (w'.heap[s_]? = some (.cells #[.int .u64 0, .int .u64 0, .int .u64 0, .int .u64 0, .int .u64 0, .int .u64 0, .int .u64 0, .int .u64 0, .int .u64 0, .int .u64 0, .int .u64 0, .int .u64 0] 54 (0, 0))) ∧ (w.heap.size ≤ s_) ∧ (w.heap.size ≤ s_) ∧ (ae ≠ s_) ∧ (s_ ≠ ae) ∧ (ag ≠ s_) ∧ (s_ ≠ ag) ∧ (Below w.heap.size w w')) ?_ ?_
          rotate_left
          · intro hJ1_3_4_6
            refine join_ (σ := Unit) 3 #[true, true, true, true, true, false, false, false] (fun s_ => [(7, .agg #[.int .u64 t157, .int .u64 t158, .int .u64 t159, .int .u64 t160, .int .u64 t161, .int .u64 t162, .int .u64 t163, .int .u64 t164, .int .u64 t165, .int .u64 t166, .int .u64 t167, .int .u64 t168]), (9, .agg #[.int .u64 t169, .int .u64 t170, .int .u64 t171, .int .u64 t172, .int .u64 t173, .int .u64 t174, .int .u64 t175, .int .u64 t176, .int .u64 t177, .int .u64 t178, .int .u64 t179, .int .u64 t180]), (10, .agg #[.int .u64 t181, .int .u64 t182, .int .u64 t183, .int .u64 t184, .int .u64 t185, .int .u64 t186, .int .u64 t187, .int .u64 t188, .int .u64 t189, .int .u64 t190, .int .u64 t191, .int .u64 t192])]) (fun s_ w' => (w'.cell? ⟨ae, 0, none⟩ = some (.int .i64 a0_0) ∧ w'.cell? ⟨ae, 1, none⟩ = some (.int .u64 a0_1) ∧ w'.cell? ⟨ag, 0, none⟩ = some (.int .i64 a1_0) ∧ w'.cell? ⟨ag, 1, none⟩ = some (.int .u64 a1_1)) ∧ (w'.heap[ae]? = some (.cells #[.int .i64 a0_0, .int .u64 a0_1] 26 (0, 0))) ∧ (w'.heap[ag]? = some (.cells #[.int .i64 a1_0, .int .u64 a1_1] 26 (0, 0))) ∧ (Below w.heap.size w w')) ?_ ?_
            rotate_left
            · intro hJ1_3_4
              refine join_ (σ := Nat) 3 #[true, true, true, true, false, false, true, false] (fun s_ => [(7, .agg #[.int .u64 t157, .int .u64 t158, .int .u64 t159, .int .u64 t160, .int .u64 t161, .int .u64 t162, .int .u64 t163, .int .u64 t164, .int .u64 t165, .int .u64 t166, .int .u64 t167, .int .u64 t168]), (9, .agg #[.int .u64 t169, .int .u64 t170, .int .u64 t171, .int .u64 t172, .int .u64 t173, .int .u64 t174, .int .u64 t175, .int .u64 t176, .int .u64 t177, .int .u64 t178, .int .u64 t179, .int .u64 t180]), (5, .pointer (some ⟨s_, 0, none⟩))]) (fun s_ w' => (w'.cell? ⟨ae, 0, none⟩ = some (.int .i64 a0_0) ∧ w'.cell? ⟨ae, 1, none⟩ = some (.int .u64 a0_1) ∧ w'.cell? ⟨ag, 0, none⟩ = some (.int .i64 a1_0) ∧ w'.cell? ⟨ag, 1, none⟩ = some (.int .u64 a1_1)) ∧ (w'.heap[ae]? = some (.cells #[.int .i64 a0_0, .int .u64 a0_1] 26 (0, 0))) ∧ (w'.heap[ag]? = some (.cells #[.int .i64 a1_0, .int .u64 a1_1] 26 (0, 0))) ∧ (w'.heap[s_]? = some (.cells #[.int .u64 0, .int .u64 0, .int .u64 0, .int .u64 0, .int .u64 0, .int .u64 0, .int .u64 0, .int .u64 0, .int .u64 0, .int .u64 0, .int .u64 0, .int .u64 0] 54 (0, 0))) ∧ (w.heap.size ≤ s_) ∧ (w.heap.size ≤ s_) ∧ (ae ≠ s_) ∧ (s_ ≠ ae) ∧ (ag ≠ s_) ∧ (s_ ≠ ag) ∧ (Below w.heap.size w w')) ?_ ?_
              rotate_left
              · intro hJ1_3_6
                refine join_ (σ := Unit) 4 #[true, true, true, true, false, false, false, false] (fun s_ => [(7, .agg #[.int .u64 t157, .int .u64 t158, .int .u64 t159, .int .u64 t160, .int .u64 t161, .int .u64 t162, .int .u64 t163, .int .u64 t164, .int .u64 t165, .int .u64 t166, .int .u64 t167, .int .u64 t168]), (9, .agg #[.int .u64 t169, .int .u64 t170, .int .u64 t171, .int .u64 t172, .int .u64 t173, .int .u64 t174, .int .u64 t175, .int .u64 t176, .int .u64 t177, .int .u64 t178, .int .u64 t179, .int .u64 t180])]) (fun s_ w' => (w'.cell? ⟨ae, 0, none⟩ = some (.int .i64 a0_0) ∧ w'.cell? ⟨ae, 1, none⟩ = some (.int .u64 a0_1) ∧ w'.cell? ⟨ag, 0, none⟩ = some (.int .i64 a1_0) ∧ w'.cell? ⟨ag, 1, none⟩ = some (.int .u64 a1_1)) ∧ (w'.heap[ae]? = some (.cells #[.int .i64 a0_0, .int .u64 a0_1] 26 (0, 0))) ∧ (w'.heap[ag]? = some (.cells #[.int .i64 a1_0, .int .u64 a1_1] 26 (0, 0))) ∧ (Below w.heap.size w w')) ?_ ?_
                rotate_left
                · intro hJ1_3
                  refine join_ (σ := Nat) 4 #[true, true, true, false, false, false, true, false] (fun s_ => [(7, .agg #[.int .u64 t157, .int .u64 t158, .int .u64 t159, .int .u64 t160, .int .u64 t161, .int .u64 t162, .int .u64 t163, .int .u64 t164, .int .u64 t165, .int .u64 t166, .int .u64 t167, .int .u64 t168]), (5, .pointer (some ⟨s_, 0, none⟩))]) (fun s_ w' => (w'.cell? ⟨ae, 0, none⟩ = some (.int .i64 a0_0) ∧ w'.cell? ⟨ae, 1, none⟩ = some (.int .u64 a0_1) ∧ w'.cell? ⟨ag, 0, none⟩ = some (.int .i64 a1_0) ∧ w'.cell? ⟨ag, 1, none⟩ = some (.int .u64 a1_1)) ∧ (w'.heap[ae]? = some (.cells #[.int .i64 a0_0, .int .u64 a0_1] 26 (0, 0))) ∧ (w'.heap[ag]? = some (.cells #[.int .i64 a1_0, .int .u64 a1_1] 26 (0, 0))) ∧ (w'.heap[s_]? = some (.cells #[.int .u64 0, .int .u64 0, .int .u64 0, .int .u64 0, .int .u64 0, .int .u64 0, .int .u64 0, .int .u64 0, .int .u64 0, .int .u64 0, .int .u64 0, .int .u64 0] 54 (0, 0))) ∧ (w.heap.size ≤ s_) ∧ (w.heap.size ≤ s_) ∧ (ae ≠ s_) ∧ (s_ ≠ ae) ∧ (ag ≠ s_) ∧ (s_ ≠ ag) ∧ (Below w.heap.size w w')) ?_ ?_
                  rotate_left
                  · intro hJ1_6
                    refine join_ (σ := Unit) 5 #[true, true, true, false, false, false, false, false] (fun s_ => [(7, .agg #[.int .u64 t157, .int .u64 t158, .int .u64 t159, .int .u64 t160, .int .u64 t161, .int .u64 t162, .int .u64 t163, .int .u64 t164, .int .u64 t165, .int .u64 t166, .int .u64 t167, .int .u64 t168])]) (fun s_ w' => (w'.cell? ⟨ae, 0, none⟩ = some (.int .i64 a0_0) ∧ w'.cell? ⟨ae, 1, none⟩ = some (.int .u64 a0_1) ∧ w'.cell? ⟨ag, 0, none⟩ = some (.int .i64 a1_0) ∧ w'.cell? ⟨ag, 1, none⟩ = some (.int .u64 a1_1)) ∧ (w'.heap[ae]? = some (.cells #[.int .i64 a0_0, .int .u64 a0_1] 26 (0, 0))) ∧ (w'.heap[ag]? = some (.cells #[.int .i64 a1_0, .int .u64 a1_1] 26 (0, 0))) ∧ (Below w.heap.size w w')) ?_ ?_
                    rotate_left
                    · intro hJ1
                      refine join_ (σ := Nat) 5 #[true, false, true, false, false, false, true, false] (fun s_ => [(5, .pointer (some ⟨s_, 0, none⟩))]) (fun s_ w' => (w'.cell? ⟨ae, 0, none⟩ = some (.int .i64 a0_0) ∧ w'.cell? ⟨ae, 1, none⟩ = some (.int .u64 a0_1) ∧ w'.cell? ⟨ag, 0, none⟩ = some (.int .i64 a1_0) ∧ w'.cell? ⟨ag, 1, none⟩ = some (.int .u64 a1_1)) ∧ (w'.heap[ae]? = some (.cells #[.int .i64 a0_0, .int .u64 a0_1] 26 (0, 0))) ∧ (w'.heap[ag]? = some (.cells #[.int .i64 a1_0, .int .u64 a1_1] 26 (0, 0))) ∧ (w'.heap[s_]? = some (.cells #[.int .u64 0, .int .u64 0, .int .u64 0, .int .u64 0, .int .u64 0, .int .u64 0, .int .u64 0, .int .u64 0, .int .u64 0, .int .u64 0, .int .u64 0, .int .u64 0] 54 (0, 0))) ∧ (w.heap.size ≤ s_) ∧ (w.heap.size ≤ s_) ∧ (ae ≠ s_) ∧ (s_ ≠ ae) ∧ (ag ≠ s_) ∧ (s_ ≠ ag) ∧ (Below w.heap.size w w')) ?_ ?_
                      rotate_left
                      · intro hJ6
                        refine two_ (i := 1) (j := 6) (Ni := some 7) (Nj := some 5) #[true, true, true, false, false, false, false, false] #[true, false, true, false, false, false, true, false] rfl rfl rfl rfl (two_of HT_.out (by kernel_rfl)) (by decide) (by decide) (fun K hK => ?_) (fun K hK => ?_)
                        · skip
                          refine goes_ Try.func36 (by kernel_rfl) rfl #[.agg #[.int .i64 a0_0, .int .u64 a0_1]] (by rfl) rfl rfl (by (try simp only [List.map_toArray, List.map_cons, List.map_nil]); first | done | rfl | (simp only [List.length_drop, List.length_take]; rfl)) ?_
                          with_reducible refine (Ref01.Digits.calls a0_0 a0_1 t157 t158 t159 t160 t161 t162 t163 t164 t165 t166 t167 t168 _ A3.out).mono ?_
                          rintro e w64 ⟨rfl, hb⟩
                          refine ⟨_, rfl, ?_⟩
                          have n0_ := zK (zL (g := ae) (o := .cells #[.int .i64 a0_0, .int .u64 a0_1] 26 (0, 0)) (by (with_reducible repeat (first | refine zA ?_ _ | refine zC ?_ | refine zB ?_ _)); exact ad.out) hb)
                          have n1_ := zK (zL (g := ag) (o := .cells #[.int .i64 a1_0, .int .u64 a1_1] 26 (0, 0)) (by (with_reducible repeat (first | refine zA ?_ _ | refine zC ?_ | refine zB ?_ _)); exact af.out) hb)
                          have n2_ := zK (zI (by repeat (first | (with_reducible first | exact HB.out | apply zG | apply zE | apply zF | refine zD ?_ ak.out | refine zD ?_ am.out) | exact HB.out)) hb)
                          clear ad
                          clear af
                          clear HB
                          have ad := n0_
                          have af := n1_
                          have HB := n2_
                          clear n0_ n1_ n2_
                          (try clear hb)
                          (try clear hb2)
                          (try clear hk)
                          (try clear hi)
                          refine hK.out _ _ ⟨(zH ad.out 0).trans rfl, (zH ad.out 1).trans rfl, (zH af.out 0).trans rfl, (zH af.out 1).trans rfl⟩ (fun hHeld => ?_)
                          clear hK K
                          refine norm_ (a' := ?_) ?_ ?_
                          rotate_left
                          · show Act.put _ (some 7) _ = _
                            simp only [Act.put, List.setIfInBounds_toArray, List.set_cons_zero, List.set_cons_succ, i64_w, i32_w]
                            rfl
                          exact norm_ (by first | (simp only [putAll, Act.put, List.setIfInBounds_toArray, List.set_cons_zero, List.set_cons_succ]; done) | (simp only [putAll, Act.put, List.setIfInBounds_toArray, List.set_cons_zero, List.set_cons_succ]; rfl)) (hJ1 () _ ⟨hHeld, (by (with_reducible repeat (first | refine zA ?_ _ | refine zC ?_ | refine zB ?_ _)); exact ad.out), (by (with_reducible repeat (first | refine zA ?_ _ | refine zC ?_ | refine zB ?_ _)); exact af.out), (by repeat (first | (with_reducible first | exact HB.out | apply zG | apply zE | apply zF | refine zD ?_ ak.out | refine zD ?_ am.out) | exact HB.out))⟩)
                        · skip
                          refine box_step ?hg (N := 5) ?hd (cs := #[.int .u64 0, .int .u64 0, .int .u64 0, .int .u64 0, .int .u64 0, .int .u64 0, .int .u64 0, .int .u64 0, .int .u64 0, .int .u64 0, .int .u64 0, .int .u64 0]) (t := 54) ?hr ?_; (case hd => rfl); (case hg => rfl); (case hr => first | (go_simp; done) | (go_simp; rfl))
                          intro aa hg w64 hbox hb
                          have n0_ := zK (zL (g := ae) (o := .cells #[.int .i64 a0_0, .int .u64 a0_1] 26 (0, 0)) (by (with_reducible repeat (first | refine zA ?_ _ | refine zC ?_ | refine zB ?_ _)); exact ad.out) hb)
                          have n1_ := zK (zL (g := ag) (o := .cells #[.int .i64 a1_0, .int .u64 a1_1] 26 (0, 0)) (by (with_reducible repeat (first | refine zA ?_ _ | refine zC ?_ | refine zB ?_ _)); exact af.out) hb)
                          have n2_ := zK (zI (by repeat (first | (with_reducible first | exact HB.out | apply zG | apply zE | apply zF | refine zD ?_ ak.out | refine zD ?_ am.out) | exact HB.out)) hb)
                          have n3_ := zK (hbox)
                          have n4_ := zK ((by rw [hg]; exact (zJ (by repeat (first | (with_reducible first | exact HB.out | apply zG | apply zE | apply zF | refine zD ?_ ak.out | refine zD ?_ am.out) | exact HB.out))) : w.heap.size ≤ aa))
                          have n5_ := zK ((by rw [hg]; exact (zJ (by repeat (first | (with_reducible first | exact HB.out | apply zG | apply zE | apply zF | refine zD ?_ ak.out | refine zD ?_ am.out) | exact HB.out))) : w.heap.size ≤ aa))
                          have n6_ := zK ((by rw [hg]; exact Nat.ne_of_lt (blk_lt (g := ae) (o := .cells #[.int .i64 a0_0, .int .u64 a0_1] 26 (0, 0)) (by (with_reducible repeat (first | refine zA ?_ _ | refine zC ?_ | refine zB ?_ _)); exact ad.out)) : ae ≠ aa))
                          have n7_ := zK ((by rw [hg]; exact Nat.ne_of_gt (blk_lt (g := ae) (o := .cells #[.int .i64 a0_0, .int .u64 a0_1] 26 (0, 0)) (by (with_reducible repeat (first | refine zA ?_ _ | refine zC ?_ | refine zB ?_ _)); exact ad.out)) : aa ≠ ae))
                          have n8_ := zK ((by rw [hg]; exact Nat.ne_of_lt (blk_lt (g := ag) (o := .cells #[.int .i64 a1_0, .int .u64 a1_1] 26 (0, 0)) (by (with_reducible repeat (first | refine zA ?_ _ | refine zC ?_ | refine zB ?_ _)); exact af.out)) : ag ≠ aa))
                          have n9_ := zK ((by rw [hg]; exact Nat.ne_of_gt (blk_lt (g := ag) (o := .cells #[.int .i64 a1_0, .int .u64 a1_1] 26 (0, 0)) (by (with_reducible repeat (first | refine zA ?_ _ | refine zC ?_ | refine zB ?_ _)); exact af.out)) : aa ≠ ag))
                          clear ad
                          clear af
                          clear HB
                          have ad := n0_
                          have af := n1_
                          have HB := n2_
                          have ah := n3_
                          have ap := n4_
                          have ao := n5_
                          have ac := n6_
                          have ai := n7_
                          have ab := n8_
                          have aj := n9_
                          clear n0_ n1_ n2_ n3_ n4_ n5_ n6_ n7_ n8_ n9_
                          clear hb hbox hg
                          refine hK.out _ _ ⟨(zH ad.out 0).trans rfl, (zH ad.out 1).trans rfl, (zH af.out 0).trans rfl, (zH af.out 1).trans rfl⟩ (fun hHeld => ?_)
                          clear hK K
                          refine norm_ (a' := ?_) ?_ ?_
                          rotate_left
                          · show Act.put _ (some 5) _ = _
                            simp only [Act.put, List.setIfInBounds_toArray, List.set_cons_zero, List.set_cons_succ, i64_w, i32_w]
                            rfl
                          exact norm_ (by first | (simp only [putAll, Act.put, List.setIfInBounds_toArray, List.set_cons_zero, List.set_cons_succ]; done) | (simp only [putAll, Act.put, List.setIfInBounds_toArray, List.set_cons_zero, List.set_cons_succ]; rfl)) (hJ6 (aa) _ ⟨hHeld, (by (with_reducible repeat (first | refine zA ?_ _ | refine zC ?_ | refine zB ?_ _)); exact ad.out), (by (with_reducible repeat (first | refine zA ?_ _ | refine zC ?_ | refine zB ?_ _)); exact af.out), (by (with_reducible repeat (first | refine zA ?_ _ | refine zC ?_ | refine zB ?_ _)); exact ah.out), ap.out, ao.out, ac.out, ai.out, ab.out, aj.out, (by repeat (first | (with_reducible first | exact HB.out | apply zG | apply zE | apply zF | refine zD ?_ ak.out | refine zD ?_ am.out | refine zD ?_ ao.out) | exact HB.out))⟩)
                      · skip
                        rintro aa w65 ⟨hS_, h0_, h1_, h2_, h3_, h4_, h5_, h6_, h7_, h8_, h9_⟩
                        have n0_ : Aside0 (w65.heap[ae]? = some (.cells #[.int .i64 a0_0, .int .u64 a0_1] 26 (0, 0))) := ⟨h0_⟩
                        have n1_ : Aside0 (w65.heap[ag]? = some (.cells #[.int .i64 a1_0, .int .u64 a1_1] 26 (0, 0))) := ⟨h1_⟩
                        have n2_ : Aside0 (w65.heap[aa]? = some (.cells #[.int .u64 0, .int .u64 0, .int .u64 0, .int .u64 0, .int .u64 0, .int .u64 0, .int .u64 0, .int .u64 0, .int .u64 0, .int .u64 0, .int .u64 0, .int .u64 0] 54 (0, 0))) := ⟨h2_⟩
                        have n3_ : Aside0 (w.heap.size ≤ aa) := ⟨h3_⟩
                        have n4_ : Aside0 (w.heap.size ≤ aa) := ⟨h4_⟩
                        have n5_ : Aside0 (ae ≠ aa) := ⟨h5_⟩
                        have n6_ : Aside0 (aa ≠ ae) := ⟨h6_⟩
                        have n7_ : Aside0 (ag ≠ aa) := ⟨h7_⟩
                        have n8_ : Aside0 (aa ≠ ag) := ⟨h8_⟩
                        have n9_ : Aside0 (Below w.heap.size w w65) := ⟨h9_⟩
                        clear ad
                        clear af
                        clear HB
                        clear h0_ h1_ h2_ h3_ h4_ h5_ h6_ h7_ h8_ h9_
                        have ad := n0_
                        have af := n1_
                        have ah := n2_
                        have ap := n3_
                        have ao := n4_
                        have ac := n5_
                        have ai := n6_
                        have ab := n7_
                        have aj := n8_
                        have HB := n9_
                        clear n0_ n1_ n2_ n3_ n4_ n5_ n6_ n7_ n8_ n9_
                        have hHeld : w65.cell? ⟨ae, 0, none⟩ = some (.int .i64 a0_0) ∧ w65.cell? ⟨ae, 1, none⟩ = some (.int .u64 a0_1) ∧ w65.cell? ⟨ag, 0, none⟩ = some (.int .i64 a1_0) ∧ w65.cell? ⟨ag, 1, none⟩ = some (.int .u64 a1_1) := hS_
                        refine norm_ (a' := ?_) ?_ ?_
                        rotate_left
                        · simp only [putAll, Act.put, List.setIfInBounds_toArray, List.set_cons_zero, List.set_cons_succ]
                          rfl
                        refine one_ (i := 1) (N := some 7) #[true, true, true, false, false, false, true, false] rfl rfl (one_of HT_.out (by kernel_rfl)) (by decide) (fun K hK => ?_)
                        refine goes_ Try.func36 (by kernel_rfl) rfl #[.agg #[.int .i64 a0_0, .int .u64 a0_1]] (by rfl) rfl rfl (by (try simp only [List.map_toArray, List.map_cons, List.map_nil]); first | done | rfl | (simp only [List.length_drop, List.length_take]; rfl)) ?_
                        with_reducible refine (Ref01.Digits.calls a0_0 a0_1 t157 t158 t159 t160 t161 t162 t163 t164 t165 t166 t167 t168 _ A3.out).mono ?_
                        rintro e w66 ⟨rfl, hb⟩
                        refine ⟨_, rfl, ?_⟩
                        have n0_ := zK (zL (g := ae) (o := .cells #[.int .i64 a0_0, .int .u64 a0_1] 26 (0, 0)) (by (with_reducible repeat (first | refine zA ?_ _ | refine zC ?_ | refine zB ?_ _)); exact ad.out) hb)
                        have n1_ := zK (zL (g := ag) (o := .cells #[.int .i64 a1_0, .int .u64 a1_1] 26 (0, 0)) (by (with_reducible repeat (first | refine zA ?_ _ | refine zC ?_ | refine zB ?_ _)); exact af.out) hb)
                        have n2_ := zK (zL (g := aa) (o := .cells #[.int .u64 0, .int .u64 0, .int .u64 0, .int .u64 0, .int .u64 0, .int .u64 0, .int .u64 0, .int .u64 0, .int .u64 0, .int .u64 0, .int .u64 0, .int .u64 0] 54 (0, 0)) (by (with_reducible repeat (first | refine zA ?_ _ | refine zC ?_ | refine zB ?_ _)); exact ah.out) hb)
                        have n3_ := zK (zI (by repeat (first | (with_reducible first | exact HB.out | apply zG | apply zE | apply zF | refine zD ?_ ak.out | refine zD ?_ am.out | refine zD ?_ ao.out) | exact HB.out)) hb)
                        clear ad
                        clear af
                        clear ah
                        clear HB
                        have ad := n0_
                        have af := n1_
                        have ah := n2_
                        have HB := n3_
                        clear n0_ n1_ n2_ n3_
                        (try clear hb)
                        (try clear hb2)
                        (try clear hk)
                        (try clear hi)
                        refine hK.out _ _ ⟨(zH ad.out 0).trans rfl, (zH ad.out 1).trans rfl, (zH af.out 0).trans rfl, (zH af.out 1).trans rfl⟩ (fun hHeld => ?_)
                        clear hK K
                        refine norm_ (a' := ?_) ?_ ?_
                        rotate_left
                        · show Act.put _ (some 7) _ = _
                          simp only [Act.put, List.setIfInBounds_toArray, List.set_cons_zero, List.set_cons_succ, i64_w, i32_w]
                          rfl
                        exact norm_ (by first | (simp only [putAll, Act.put, List.setIfInBounds_toArray, List.set_cons_zero, List.set_cons_succ]; done) | (simp only [putAll, Act.put, List.setIfInBounds_toArray, List.set_cons_zero, List.set_cons_succ]; rfl)) (hJ1_6 (aa) _ ⟨hHeld, (by (with_reducible repeat (first | refine zA ?_ _ | refine zC ?_ | refine zB ?_ _)); exact ad.out), (by (with_reducible repeat (first | refine zA ?_ _ | refine zC ?_ | refine zB ?_ _)); exact af.out), (by (with_reducible repeat (first | refine zA ?_ _ | refine zC ?_ | refine zB ?_ _)); exact ah.out), ap.out, ao.out, ac.out, ai.out, ab.out, aj.out, (by repeat (first | (with_reducible first | exact HB.out | apply zG | apply zE | apply zF | refine zD ?_ ak.out | refine zD ?_ am.out | refine zD ?_ ao.out) | exact HB.out))⟩)
                    · skip
                      rintro _ w65 ⟨hS_, h0_, h1_, h2_⟩
                      have n0_ : Aside0 (w65.heap[ae]? = some (.cells #[.int .i64 a0_0, .int .u64 a0_1] 26 (0, 0))) := ⟨h0_⟩
                      have n1_ : Aside0 (w65.heap[ag]? = some (.cells #[.int .i64 a1_0, .int .u64 a1_1] 26 (0, 0))) := ⟨h1_⟩
                      have n2_ : Aside0 (Below w.heap.size w w65) := ⟨h2_⟩
                      clear ad
                      clear af
                      clear HB
                      clear h0_ h1_ h2_
                      have ad := n0_
                      have af := n1_
                      have HB := n2_
                      clear n0_ n1_ n2_
                      have hHeld : w65.cell? ⟨ae, 0, none⟩ = some (.int .i64 a0_0) ∧ w65.cell? ⟨ae, 1, none⟩ = some (.int .u64 a0_1) ∧ w65.cell? ⟨ag, 0, none⟩ = some (.int .i64 a1_0) ∧ w65.cell? ⟨ag, 1, none⟩ = some (.int .u64 a1_1) := hS_
                      refine norm_ (a' := ?_) ?_ ?_
                      rotate_left
                      · simp only [putAll, Act.put, List.setIfInBounds_toArray, List.set_cons_zero, List.set_cons_succ]
                        rfl
                      refine two_ (i := 3) (j := 6) (Ni := some 9) (Nj := some 5) #[true, true, true, true, false, false, false, false] #[true, true, true, false, false, false, true, false] rfl rfl rfl rfl (two_of HT_.out (by kernel_rfl)) (by decide) (by decide) (fun K hK => ?_) (fun K hK => ?_)
                      · skip
                        refine goes_ Try.func36 (by kernel_rfl) rfl #[.agg #[.int .i64 a1_0, .int .u64 a1_1]] (by rfl) rfl rfl (by (try simp only [List.map_toArray, List.map_cons, List.map_nil]); first | done | rfl | (simp only [List.length_drop, List.length_take]; rfl)) ?_
                        with_reducible refine (Ref01.Digits.calls a1_0 a1_1 t169 t170 t171 t172 t173 t174 t175 t176 t177 t178 t179 t180 _ A4.out).mono ?_
                        rintro e w66 ⟨rfl, hb⟩
                        refine ⟨_, rfl, ?_⟩
                        have n0_ := zK (zL (g := ae) (o := .cells #[.int .i64 a0_0, .int .u64 a0_1] 26 (0, 0)) (by (with_reducible repeat (first | refine zA ?_ _ | refine zC ?_ | refine zB ?_ _)); exact ad.out) hb)
                        have n1_ := zK (zL (g := ag) (o := .cells #[.int .i64 a1_0, .int .u64 a1_1] 26 (0, 0)) (by (with_reducible repeat (first | refine zA ?_ _ | refine zC ?_ | refine zB ?_ _)); exact af.out) hb)
                        have n2_ := zK (zI (by repeat (first | (with_reducible first | exact HB.out | apply zG | apply zE | apply zF | refine zD ?_ ak.out | refine zD ?_ am.out) | exact HB.out)) hb)
                        clear ad
                        clear af
                        clear HB
                        have ad := n0_
                        have af := n1_
                        have HB := n2_
                        clear n0_ n1_ n2_
                        (try clear hb)
                        (try clear hb2)
                        (try clear hk)
                        (try clear hi)
                        refine hK.out _ _ ⟨(zH ad.out 0).trans rfl, (zH ad.out 1).trans rfl, (zH af.out 0).trans rfl, (zH af.out 1).trans rfl⟩ (fun hHeld => ?_)
                        clear hK K
                        refine norm_ (a' := ?_) ?_ ?_
                        rotate_left
                        · show Act.put _ (some 9) _ = _
                          simp only [Act.put, List.setIfInBounds_toArray, List.set_cons_zero, List.set_cons_succ, i64_w, i32_w]
                          rfl
                        exact norm_ (by first | (simp only [putAll, Act.put, List.setIfInBounds_toArray, List.set_cons_zero, List.set_cons_succ]; done) | (simp only [putAll, Act.put, List.setIfInBounds_toArray, List.set_cons_zero, List.set_cons_succ]; rfl)) (hJ1_3 () _ ⟨hHeld, (by (with_reducible repeat (first | refine zA ?_ _ | refine zC ?_ | refine zB ?_ _)); exact ad.out), (by (with_reducible repeat (first | refine zA ?_ _ | refine zC ?_ | refine zB ?_ _)); exact af.out), (by repeat (first | (with_reducible first | exact HB.out | apply zG | apply zE | apply zF | refine zD ?_ ak.out | refine zD ?_ am.out) | exact HB.out))⟩)
                      · skip
                        refine box_step ?hg (N := 5) ?hd (cs := #[.int .u64 0, .int .u64 0, .int .u64 0, .int .u64 0, .int .u64 0, .int .u64 0, .int .u64 0, .int .u64 0, .int .u64 0, .int .u64 0, .int .u64 0, .int .u64 0]) (t := 54) ?hr ?_; (case hd => rfl); (case hg => rfl); (case hr => first | (go_simp; done) | (go_simp; rfl))
                        intro aa hg w66 hbox hb
                        have n0_ := zK (zL (g := ae) (o := .cells #[.int .i64 a0_0, .int .u64 a0_1] 26 (0, 0)) (by (with_reducible repeat (first | refine zA ?_ _ | refine zC ?_ | refine zB ?_ _)); exact ad.out) hb)
                        have n1_ := zK (zL (g := ag) (o := .cells #[.int .i64 a1_0, .int .u64 a1_1] 26 (0, 0)) (by (with_reducible repeat (first | refine zA ?_ _ | refine zC ?_ | refine zB ?_ _)); exact af.out) hb)
                        have n2_ := zK (zI (by repeat (first | (with_reducible first | exact HB.out | apply zG | apply zE | apply zF | refine zD ?_ ak.out | refine zD ?_ am.out) | exact HB.out)) hb)
                        have n3_ := zK (hbox)
                        have n4_ := zK ((by rw [hg]; exact (zJ (by repeat (first | (with_reducible first | exact HB.out | apply zG | apply zE | apply zF | refine zD ?_ ak.out | refine zD ?_ am.out) | exact HB.out))) : w.heap.size ≤ aa))
                        have n5_ := zK ((by rw [hg]; exact (zJ (by repeat (first | (with_reducible first | exact HB.out | apply zG | apply zE | apply zF | refine zD ?_ ak.out | refine zD ?_ am.out) | exact HB.out))) : w.heap.size ≤ aa))
                        have n6_ := zK ((by rw [hg]; exact Nat.ne_of_lt (blk_lt (g := ae) (o := .cells #[.int .i64 a0_0, .int .u64 a0_1] 26 (0, 0)) (by (with_reducible repeat (first | refine zA ?_ _ | refine zC ?_ | refine zB ?_ _)); exact ad.out)) : ae ≠ aa))
                        have n7_ := zK ((by rw [hg]; exact Nat.ne_of_gt (blk_lt (g := ae) (o := .cells #[.int .i64 a0_0, .int .u64 a0_1] 26 (0, 0)) (by (with_reducible repeat (first | refine zA ?_ _ | refine zC ?_ | refine zB ?_ _)); exact ad.out)) : aa ≠ ae))
                        have n8_ := zK ((by rw [hg]; exact Nat.ne_of_lt (blk_lt (g := ag) (o := .cells #[.int .i64 a1_0, .int .u64 a1_1] 26 (0, 0)) (by (with_reducible repeat (first | refine zA ?_ _ | refine zC ?_ | refine zB ?_ _)); exact af.out)) : ag ≠ aa))
                        have n9_ := zK ((by rw [hg]; exact Nat.ne_of_gt (blk_lt (g := ag) (o := .cells #[.int .i64 a1_0, .int .u64 a1_1] 26 (0, 0)) (by (with_reducible repeat (first | refine zA ?_ _ | refine zC ?_ | refine zB ?_ _)); exact af.out)) : aa ≠ ag))
                        clear ad
                        clear af
                        clear HB
                        have ad := n0_
                        have af := n1_
                        have HB := n2_
                        have ah := n3_
                        have ap := n4_
                        have ao := n5_
                        have ac := n6_
                        have ai := n7_
                        have ab := n8_
                        have aj := n9_
                        clear n0_ n1_ n2_ n3_ n4_ n5_ n6_ n7_ n8_ n9_
                        clear hb hbox hg
                        refine hK.out _ _ ⟨(zH ad.out 0).trans rfl, (zH ad.out 1).trans rfl, (zH af.out 0).trans rfl, (zH af.out 1).trans rfl⟩ (fun hHeld => ?_)
                        clear hK K
                        refine norm_ (a' := ?_) ?_ ?_
                        rotate_left
                        · show Act.put _ (some 5) _ = _
                          simp only [Act.put, List.setIfInBounds_toArray, List.set_cons_zero, List.set_cons_succ, i64_w, i32_w]
                          rfl
                        exact norm_ (by first | (simp only [putAll, Act.put, List.setIfInBounds_toArray, List.set_cons_zero, List.set_cons_succ]; done) | (simp only [putAll, Act.put, List.setIfInBounds_toArray, List.set_cons_zero, List.set_cons_succ]; rfl)) (hJ1_6 (aa) _ ⟨hHeld, (by (with_reducible repeat (first | refine zA ?_ _ | refine zC ?_ | refine zB ?_ _)); exact ad.out), (by (with_reducible repeat (first | refine zA ?_ _ | refine zC ?_ | refine zB ?_ _)); exact af.out), (by (with_reducible repeat (first | refine zA ?_ _ | refine zC ?_ | refine zB ?_ _)); exact ah.out), ap.out, ao.out, ac.out, ai.out, ab.out, aj.out, (by repeat (first | (with_reducible first | exact HB.out | apply zG | apply zE | apply zF | refine zD ?_ ak.out | refine zD ?_ am.out | refine zD ?_ ao.out) | exact HB.out))⟩)
                  · skip
                    rintro aa w66 ⟨hS_, h0_, h1_, h2_, h3_, h4_, h5_, h6_, h7_, h8_, h9_⟩
                    have n0_ : Aside0 (w66.heap[ae]? = some (.cells #[.int .i64 a0_0, .int .u64 a0_1] 26 (0, 0))) := ⟨h0_⟩
                    have n1_ : Aside0 (w66.heap[ag]? = some (.cells #[.int .i64 a1_0, .int .u64 a1_1] 26 (0, 0))) := ⟨h1_⟩
                    have n2_ : Aside0 (w66.heap[aa]? = some (.cells #[.int .u64 0, .int .u64 0, .int .u64 0, .int .u64 0, .int .u64 0, .int .u64 0, .int .u64 0, .int .u64 0, .int .u64 0, .int .u64 0, .int .u64 0, .int .u64 0] 54 (0, 0))) := ⟨h2_⟩
                    have n3_ : Aside0 (w.heap.size ≤ aa) := ⟨h3_⟩
                    have n4_ : Aside0 (w.heap.size ≤ aa) := ⟨h4_⟩
                    have n5_ : Aside0 (ae ≠ aa) := ⟨h5_⟩
                    have n6_ : Aside0 (aa ≠ ae) := ⟨h6_⟩
                    have n7_ : Aside0 (ag ≠ aa) := ⟨h7_⟩
                    have n8_ : Aside0 (aa ≠ ag) := ⟨h8_⟩
                    have n9_ : Aside0 (Below w.heap.size w w66) := ⟨h9_⟩
                    clear ad
                    clear af
                    clear HB
                    clear h0_ h1_ h2_ h3_ h4_ h5_ h6_ h7_ h8_ h9_
                    have ad := n0_
                    have af := n1_
                    have ah := n2_
                    have ap := n3_
                    have ao := n4_
                    have ac := n5_
                    have ai := n6_
                    have ab := n7_
                    have aj := n8_
                    have HB := n9_
                    clear n0_ n1_ n2_ n3_ n4_ n5_ n6_ n7_ n8_ n9_
                    have hHeld : w66.cell? ⟨ae, 0, none⟩ = some (.int .i64 a0_0) ∧ w66.cell? ⟨ae, 1, none⟩ = some (.int .u64 a0_1) ∧ w66.cell? ⟨ag, 0, none⟩ = some (.int .i64 a1_0) ∧ w66.cell? ⟨ag, 1, none⟩ = some (.int .u64 a1_1) := hS_
                    refine norm_ (a' := ?_) ?_ ?_
                    rotate_left
                    · simp only [putAll, Act.put, List.setIfInBounds_toArray, List.set_cons_zero, List.set_cons_succ]
                      rfl
                    refine one_ (i := 3) (N := some 9) #[true, true, true, true, false, false, true, false] rfl rfl (one_of HT_.out (by kernel_rfl)) (by decide) (fun K hK => ?_)
                    refine goes_ Try.func36 (by kernel_rfl) rfl #[.agg #[.int .i64 a1_0, .int .u64 a1_1]] (by rfl) rfl rfl (by (try simp only [List.map_toArray, List.map_cons, List.map_nil]); first | done | rfl | (simp only [List.length_drop, List.length_take]; rfl)) ?_
                    with_reducible refine (Ref01.Digits.calls a1_0 a1_1 t169 t170 t171 t172 t173 t174 t175 t176 t177 t178 t179 t180 _ A4.out).mono ?_
                    rintro e w67 ⟨rfl, hb⟩
                    refine ⟨_, rfl, ?_⟩
                    have n0_ := zK (zL (g := ae) (o := .cells #[.int .i64 a0_0, .int .u64 a0_1] 26 (0, 0)) (by (with_reducible repeat (first | refine zA ?_ _ | refine zC ?_ | refine zB ?_ _)); exact ad.out) hb)
                    have n1_ := zK (zL (g := ag) (o := .cells #[.int .i64 a1_0, .int .u64 a1_1] 26 (0, 0)) (by (with_reducible repeat (first | refine zA ?_ _ | refine zC ?_ | refine zB ?_ _)); exact af.out) hb)
                    have n2_ := zK (zL (g := aa) (o := .cells #[.int .u64 0, .int .u64 0, .int .u64 0, .int .u64 0, .int .u64 0, .int .u64 0, .int .u64 0, .int .u64 0, .int .u64 0, .int .u64 0, .int .u64 0, .int .u64 0] 54 (0, 0)) (by (with_reducible repeat (first | refine zA ?_ _ | refine zC ?_ | refine zB ?_ _)); exact ah.out) hb)
                    have n3_ := zK (zI (by repeat (first | (with_reducible first | exact HB.out | apply zG | apply zE | apply zF | refine zD ?_ ak.out | refine zD ?_ am.out | refine zD ?_ ao.out) | exact HB.out)) hb)
                    clear ad
                    clear af
                    clear ah
                    clear HB
                    have ad := n0_
                    have af := n1_
                    have ah := n2_
                    have HB := n3_
                    clear n0_ n1_ n2_ n3_
                    (try clear hb)
                    (try clear hb2)
                    (try clear hk)
                    (try clear hi)
                    refine hK.out _ _ ⟨(zH ad.out 0).trans rfl, (zH ad.out 1).trans rfl, (zH af.out 0).trans rfl, (zH af.out 1).trans rfl⟩ (fun hHeld => ?_)
                    clear hK K
                    refine norm_ (a' := ?_) ?_ ?_
                    rotate_left
                    · show Act.put _ (some 9) _ = _
                      simp only [Act.put, List.setIfInBounds_toArray, List.set_cons_zero, List.set_cons_succ, i64_w, i32_w]
                      rfl
                    exact norm_ (by first | (simp only [putAll, Act.put, List.setIfInBounds_toArray, List.set_cons_zero, List.set_cons_succ]; done) | (simp only [putAll, Act.put, List.setIfInBounds_toArray, List.set_cons_zero, List.set_cons_succ]; rfl)) (hJ1_3_6 (aa) _ ⟨hHeld, (by (with_reducible repeat (first | refine zA ?_ _ | refine zC ?_ | refine zB ?_ _)); exact ad.out), (by (with_reducible repeat (first | refine zA ?_ _ | refine zC ?_ | refine zB ?_ _)); exact af.out), (by (with_reducible repeat (first | refine zA ?_ _ | refine zC ?_ | refine zB ?_ _)); exact ah.out), ap.out, ao.out, ac.out, ai.out, ab.out, aj.out, (by repeat (first | (with_reducible first | exact HB.out | apply zG | apply zE | apply zF | refine zD ?_ ak.out | refine zD ?_ am.out | refine zD ?_ ao.out) | exact HB.out))⟩)
                · skip
                  rintro _ w66 ⟨hS_, h0_, h1_, h2_⟩
                  have n0_ : Aside0 (w66.heap[ae]? = some (.cells #[.int .i64 a0_0, .int .u64 a0_1] 26 (0, 0))) := ⟨h0_⟩
                  have n1_ : Aside0 (w66.heap[ag]? = some (.cells #[.int .i64 a1_0, .int .u64 a1_1] 26 (0, 0))) := ⟨h1_⟩
                  have n2_ : Aside0 (Below w.heap.size w w66) := ⟨h2_⟩
                  clear ad
                  clear af
                  clear HB
                  clear h0_ h1_ h2_
                  have ad := n0_
                  have af := n1_
                  have HB := n2_
                  clear n0_ n1_ n2_
                  have hHeld : w66.cell? ⟨ae, 0, none⟩ = some (.int .i64 a0_0) ∧ w66.cell? ⟨ae, 1, none⟩ = some (.int .u64 a0_1) ∧ w66.cell? ⟨ag, 0, none⟩ = some (.int .i64 a1_0) ∧ w66.cell? ⟨ag, 1, none⟩ = some (.int .u64 a1_1) := hS_
                  refine norm_ (a' := ?_) ?_ ?_
                  rotate_left
                  · simp only [putAll, Act.put, List.setIfInBounds_toArray, List.set_cons_zero, List.set_cons_succ]
                    rfl
                  refine two_ (i := 4) (j := 6) (Ni := some 10) (Nj := some 5) #[true, true, true, true, true, false, false, false] #[true, true, true, true, false, false, true, false] rfl rfl rfl rfl (two_of HT_.out (by kernel_rfl)) (by decide) (by decide) (fun K hK => ?_) (fun K hK => ?_)
                  · skip
                    refine goes_ Try.func38 (by kernel_rfl) rfl #[.agg #[.int .u64 t169, .int .u64 t170, .int .u64 t171, .int .u64 t172, .int .u64 t173, .int .u64 t174, .int .u64 t175, .int .u64 t176, .int .u64 t177, .int .u64 t178, .int .u64 t179, .int .u64 t180]] (by rfl) rfl rfl (by (try simp only [List.map_toArray, List.map_cons, List.map_nil]); first | done | rfl | (simp only [List.length_drop, List.length_take]; rfl)) ?_
                    with_reducible refine (Ref01.Turned.calls t169 t170 t171 t172 t173 t174 t175 t176 t177 t178 t179 t180 t181 t182 t183 t184 t185 t186 t187 t188 t189 t190 t191 t192 _ A5.out).mono ?_
                    rintro e w67 ⟨rfl, hb⟩
                    refine ⟨_, rfl, ?_⟩
                    have n0_ := zK (zL (g := ae) (o := .cells #[.int .i64 a0_0, .int .u64 a0_1] 26 (0, 0)) (by (with_reducible repeat (first | refine zA ?_ _ | refine zC ?_ | refine zB ?_ _)); exact ad.out) hb)
                    have n1_ := zK (zL (g := ag) (o := .cells #[.int .i64 a1_0, .int .u64 a1_1] 26 (0, 0)) (by (with_reducible repeat (first | refine zA ?_ _ | refine zC ?_ | refine zB ?_ _)); exact af.out) hb)
                    have n2_ := zK (zI (by repeat (first | (with_reducible first | exact HB.out | apply zG | apply zE | apply zF | refine zD ?_ ak.out | refine zD ?_ am.out) | exact HB.out)) hb)
                    clear ad
                    clear af
                    clear HB
                    have ad := n0_
                    have af := n1_
                    have HB := n2_
                    clear n0_ n1_ n2_
                    (try clear hb)
                    (try clear hb2)
                    (try clear hk)
                    (try clear hi)
                    refine hK.out _ _ ⟨(zH ad.out 0).trans rfl, (zH ad.out 1).trans rfl, (zH af.out 0).trans rfl, (zH af.out 1).trans rfl⟩ (fun hHeld => ?_)
                    clear hK K
                    refine norm_ (a' := ?_) ?_ ?_
                    rotate_left
                    · show Act.put _ (some 10) _ = _
                      simp only [Act.put, List.setIfInBounds_toArray, List.set_cons_zero, List.set_cons_succ, i64_w, i32_w]
                      rfl
                    exact norm_ (by first | (simp only [putAll, Act.put, List.setIfInBounds_toArray, List.set_cons_zero, List.set_cons_succ]; done) | (simp only [putAll, Act.put, List.setIfInBounds_toArray, List.set_cons_zero, List.set_cons_succ]; rfl)) (hJ1_3_4 () _ ⟨hHeld, (by (with_reducible repeat (first | refine zA ?_ _ | refine zC ?_ | refine zB ?_ _)); exact ad.out), (by (with_reducible repeat (first | refine zA ?_ _ | refine zC ?_ | refine zB ?_ _)); exact af.out), (by repeat (first | (with_reducible first | exact HB.out | apply zG | apply zE | apply zF | refine zD ?_ ak.out | refine zD ?_ am.out) | exact HB.out))⟩)
                  · skip
                    refine box_step ?hg (N := 5) ?hd (cs := #[.int .u64 0, .int .u64 0, .int .u64 0, .int .u64 0, .int .u64 0, .int .u64 0, .int .u64 0, .int .u64 0, .int .u64 0, .int .u64 0, .int .u64 0, .int .u64 0]) (t := 54) ?hr ?_; (case hd => rfl); (case hg => rfl); (case hr => first | (go_simp; done) | (go_simp; rfl))
                    intro aa hg w67 hbox hb
                    have n0_ := zK (zL (g := ae) (o := .cells #[.int .i64 a0_0, .int .u64 a0_1] 26 (0, 0)) (by (with_reducible repeat (first | refine zA ?_ _ | refine zC ?_ | refine zB ?_ _)); exact ad.out) hb)
                    have n1_ := zK (zL (g := ag) (o := .cells #[.int .i64 a1_0, .int .u64 a1_1] 26 (0, 0)) (by (with_reducible repeat (first | refine zA ?_ _ | refine zC ?_ | refine zB ?_ _)); exact af.out) hb)
                    have n2_ := zK (zI (by repeat (first | (with_reducible first | exact HB.out | apply zG | apply zE | apply zF | refine zD ?_ ak.out | refine zD ?_ am.out) | exact HB.out)) hb)
                    have n3_ := zK (hbox)
                    have n4_ := zK ((by rw [hg]; exact (zJ (by repeat (first | (with_reducible first | exact HB.out | apply zG | apply zE | apply zF | refine zD ?_ ak.out | refine zD ?_ am.out) | exact HB.out))) : w.heap.size ≤ aa))
                    have n5_ := zK ((by rw [hg]; exact (zJ (by repeat (first | (with_reducible first | exact HB.out | apply zG | apply zE | apply zF | refine zD ?_ ak.out | refine zD ?_ am.out) | exact HB.out))) : w.heap.size ≤ aa))
                    have n6_ := zK ((by rw [hg]; exact Nat.ne_of_lt (blk_lt (g := ae) (o := .cells #[.int .i64 a0_0, .int .u64 a0_1] 26 (0, 0)) (by (with_reducible repeat (first | refine zA ?_ _ | refine zC ?_ | refine zB ?_ _)); exact ad.out)) : ae ≠ aa))
                    have n7_ := zK ((by rw [hg]; exact Nat.ne_of_gt (blk_lt (g := ae) (o := .cells #[.int .i64 a0_0, .int .u64 a0_1] 26 (0, 0)) (by (with_reducible repeat (first | refine zA ?_ _ | refine zC ?_ | refine zB ?_ _)); exact ad.out)) : aa ≠ ae))
                    have n8_ := zK ((by rw [hg]; exact Nat.ne_of_lt (blk_lt (g := ag) (o := .cells #[.int .i64 a1_0, .int .u64 a1_1] 26 (0, 0)) (by (with_reducible repeat (first | refine zA ?_ _ | refine zC ?_ | refine zB ?_ _)); exact af.out)) : ag ≠ aa))
                    have n9_ := zK ((by rw [hg]; exact Nat.ne_of_gt (blk_lt (g := ag) (o := .cells #[.int .i64 a1_0, .int .u64 a1_1] 26 (0, 0)) (by (with_reducible repeat (first | refine zA ?_ _ | refine zC ?_ | refine zB ?_ _)); exact af.out)) : aa ≠ ag))
                    clear ad
                    clear af
                    clear HB
                    have ad := n0_
                    have af := n1_
                    have HB := n2_
                    have ah := n3_
                    have ap := n4_
                    have ao := n5_
                    have ac := n6_
                    have ai := n7_
                    have ab := n8_
                    have aj := n9_
                    clear n0_ n1_ n2_ n3_ n4_ n5_ n6_ n7_ n8_ n9_
                    clear hb hbox hg
                    refine hK.out _ _ ⟨(zH ad.out 0).trans rfl, (zH ad.out 1).trans rfl, (zH af.out 0).trans rfl, (zH af.out 1).trans rfl⟩ (fun hHeld => ?_)
                    clear hK K
                    refine norm_ (a' := ?_) ?_ ?_
                    rotate_left
                    · show Act.put _ (some 5) _ = _
                      simp only [Act.put, List.setIfInBounds_toArray, List.set_cons_zero, List.set_cons_succ, i64_w, i32_w]
                      rfl
                    exact norm_ (by first | (simp only [putAll, Act.put, List.setIfInBounds_toArray, List.set_cons_zero, List.set_cons_succ]; done) | (simp only [putAll, Act.put, List.setIfInBounds_toArray, List.set_cons_zero, List.set_cons_succ]; rfl)) (hJ1_3_6 (aa) _ ⟨hHeld, (by (with_reducible repeat (first | refine zA ?_ _ | refine zC ?_ | refine zB ?_ _)); exact ad.out), (by (with_reducible repeat (first | refine zA ?_ _ | refine zC ?_ | refine zB ?_ _)); exact af.out), (by (with_reducible repeat (first | refine zA ?_ _ | refine zC ?_ | refine zB ?_ _)); exact ah.out), ap.out, ao.out, ac.out, ai.out, ab.out, aj.out, (by repeat (first | (with_reducible first | exact HB.out | apply zG | apply zE | apply zF | refine zD ?_ ak.out | refine zD ?_ am.out | refine zD ?_ ao.out) | exact HB.out))⟩)
              · skip
                rintro aa w67 ⟨hS_, h0_, h1_, h2_, h3_, h4_, h5_, h6_, h7_, h8_, h9_⟩
                have n0_ : Aside0 (w67.heap[ae]? = some (.cells #[.int .i64 a0_0, .int .u64 a0_1] 26 (0, 0))) := ⟨h0_⟩
                have n1_ : Aside0 (w67.heap[ag]? = some (.cells #[.int .i64 a1_0, .int .u64 a1_1] 26 (0, 0))) := ⟨h1_⟩
                have n2_ : Aside0 (w67.heap[aa]? = some (.cells #[.int .u64 0, .int .u64 0, .int .u64 0, .int .u64 0, .int .u64 0, .int .u64 0, .int .u64 0, .int .u64 0, .int .u64 0, .int .u64 0, .int .u64 0, .int .u64 0] 54 (0, 0))) := ⟨h2_⟩
                have n3_ : Aside0 (w.heap.size ≤ aa) := ⟨h3_⟩
                have n4_ : Aside0 (w.heap.size ≤ aa) := ⟨h4_⟩
                have n5_ : Aside0 (ae ≠ aa) := ⟨h5_⟩
                have n6_ : Aside0 (aa ≠ ae) := ⟨h6_⟩
                have n7_ : Aside0 (ag ≠ aa) := ⟨h7_⟩
                have n8_ : Aside0 (aa ≠ ag) := ⟨h8_⟩
                have n9_ : Aside0 (Below w.heap.size w w67) := ⟨h9_⟩
                clear ad
                clear af
                clear HB
                clear h0_ h1_ h2_ h3_ h4_ h5_ h6_ h7_ h8_ h9_
                have ad := n0_
                have af := n1_
                have ah := n2_
                have ap := n3_
                have ao := n4_
                have ac := n5_
                have ai := n6_
                have ab := n7_
                have aj := n8_
                have HB := n9_
                clear n0_ n1_ n2_ n3_ n4_ n5_ n6_ n7_ n8_ n9_
                have hHeld : w67.cell? ⟨ae, 0, none⟩ = some (.int .i64 a0_0) ∧ w67.cell? ⟨ae, 1, none⟩ = some (.int .u64 a0_1) ∧ w67.cell? ⟨ag, 0, none⟩ = some (.int .i64 a1_0) ∧ w67.cell? ⟨ag, 1, none⟩ = some (.int .u64 a1_1) := hS_
                refine norm_ (a' := ?_) ?_ ?_
                rotate_left
                · simp only [putAll, Act.put, List.setIfInBounds_toArray, List.set_cons_zero, List.set_cons_succ]
                  rfl
                refine one_ (i := 4) (N := some 10) #[true, true, true, true, true, false, true, false] rfl rfl (one_of HT_.out (by kernel_rfl)) (by decide) (fun K hK => ?_)
                refine goes_ Try.func38 (by kernel_rfl) rfl #[.agg #[.int .u64 t169, .int .u64 t170, .int .u64 t171, .int .u64 t172, .int .u64 t173, .int .u64 t174, .int .u64 t175, .int .u64 t176, .int .u64 t177, .int .u64 t178, .int .u64 t179, .int .u64 t180]] (by rfl) rfl rfl (by (try simp only [List.map_toArray, List.map_cons, List.map_nil]); first | done | rfl | (simp only [List.length_drop, List.length_take]; rfl)) ?_
                with_reducible refine (Ref01.Turned.calls t169 t170 t171 t172 t173 t174 t175 t176 t177 t178 t179 t180 t181 t182 t183 t184 t185 t186 t187 t188 t189 t190 t191 t192 _ A5.out).mono ?_
                rintro e w68 ⟨rfl, hb⟩
                refine ⟨_, rfl, ?_⟩
                have n0_ := zK (zL (g := ae) (o := .cells #[.int .i64 a0_0, .int .u64 a0_1] 26 (0, 0)) (by (with_reducible repeat (first | refine zA ?_ _ | refine zC ?_ | refine zB ?_ _)); exact ad.out) hb)
                have n1_ := zK (zL (g := ag) (o := .cells #[.int .i64 a1_0, .int .u64 a1_1] 26 (0, 0)) (by (with_reducible repeat (first | refine zA ?_ _ | refine zC ?_ | refine zB ?_ _)); exact af.out) hb)
                have n2_ := zK (zL (g := aa) (o := .cells #[.int .u64 0, .int .u64 0, .int .u64 0, .int .u64 0, .int .u64 0, .int .u64 0, .int .u64 0, .int .u64 0, .int .u64 0, .int .u64 0, .int .u64 0, .int .u64 0] 54 (0, 0)) (by (with_reducible repeat (first | refine zA ?_ _ | refine zC ?_ | refine zB ?_ _)); exact ah.out) hb)
                have n3_ := zK (zI (by repeat (first | (with_reducible first | exact HB.out | apply zG | apply zE | apply zF | refine zD ?_ ak.out | refine zD ?_ am.out | refine zD ?_ ao.out) | exact HB.out)) hb)
                clear ad
                clear af
                clear ah
                clear HB
                have ad := n0_
                have af := n1_
                have ah := n2_
                have HB := n3_
                clear n0_ n1_ n2_ n3_
                (try clear hb)
                (try clear hb2)
                (try clear hk)
                (try clear hi)
                refine hK.out _ _ ⟨(zH ad.out 0).trans rfl, (zH ad.out 1).trans rfl, (zH af.out 0).trans rfl, (zH af.out 1).trans rfl⟩ (fun hHeld => ?_)
                clear hK K
                refine norm_ (a' := ?_) ?_ ?_
                rotate_left
                · show Act.put _ (some 10) _ = _
                  simp only [Act.put, List.setIfInBounds_toArray, List.set_cons_zero, List.set_cons_succ, i64_w, i32_w]
                  rfl
                exact norm_ (by first | (simp only [putAll, Act.put, List.setIfInBounds_toArray, List.set_cons_zero, List.set_cons_succ]; done) | (simp only [putAll, Act.put, List.setIfInBounds_toArray, List.set_cons_zero, List.set_cons_succ]; rfl)) (hJ1_3_4_6 (aa) _ ⟨hHeld, (by (with_reducible repeat (first | refine zA ?_ _ | refine zC ?_ | refine zB ?_ _)); exact ad.out), (by (with_reducible repeat (first | refine zA ?_ _ | refine zC ?_ | refine zB ?_ _)); exact af.out), (by (with_reducible repeat (first | refine zA ?_ _ | refine zC ?_ | refine zB ?_ _)); exact ah.out), ap.out, ao.out, ac.out, ai.out, ab.out, aj.out, (by repeat (first | (with_reducible first | exact HB.out | apply zG | apply zE | apply zF | refine zD ?_ ak.out | refine zD ?_ am.out | refine zD ?_ ao.out) | exact HB.out))⟩)
            · skip
              rintro _ w67 ⟨hS_, h0_, h1_, h2_⟩
              have n0_ : Aside0 (w67.heap[ae]? = some (.cells #[.int .i64 a0_0, .int .u64 a0_1] 26 (0, 0))) := ⟨h0_⟩
              have n1_ : Aside0 (w67.heap[ag]? = some (.cells #[.int .i64 a1_0, .int .u64 a1_1] 26 (0, 0))) := ⟨h1_⟩
              have n2_ : Aside0 (Below w.heap.size w w67) := ⟨h2_⟩
              clear ad
              clear af
              clear HB
              clear h0_ h1_ h2_
              have ad := n0_
              have af := n1_
              have HB := n2_
              clear n0_ n1_ n2_
              have hHeld : w67.cell? ⟨ae, 0, none⟩ = some (.int .i64 a0_0) ∧ w67.cell? ⟨ae, 1, none⟩ = some (.int .u64 a0_1) ∧ w67.cell? ⟨ag, 0, none⟩ = some (.int .i64 a1_0) ∧ w67.cell? ⟨ag, 1, none⟩ = some (.int .u64 a1_1) := hS_
              refine norm_ (a' := ?_) ?_ ?_
              rotate_left
              · simp only [putAll, Act.put, List.setIfInBounds_toArray, List.set_cons_zero, List.set_cons_succ]
                rfl
              refine two_ (i := 5) (j := 6) (Ni := some 11) (Nj := some 5) #[true, true, true, true, true, true, false, false] #[true, true, true, true, true, false, true, false] rfl rfl rfl rfl (two_of HT_.out (by kernel_rfl)) (by decide) (by decide) (fun K hK => ?_) (fun K hK => ?_)
              · skip
                refine goes_ Try.func35 (by kernel_rfl) rfl #[.agg #[.int .u64 t157, .int .u64 t158, .int .u64 t159, .int .u64 t160, .int .u64 t161, .int .u64 t162, .int .u64 t163, .int .u64 t164, .int .u64 t165, .int .u64 t166, .int .u64 t167, .int .u64 t168], .agg #[.int .u64 t181, .int .u64 t182, .int .u64 t183, .int .u64 t184, .int .u64 t185, .int .u64 t186, .int .u64 t187, .int .u64 t188, .int .u64 t189, .int .u64 t190, .int .u64 t191, .int .u64 t192]] (by rfl) rfl rfl (by (try simp only [List.map_toArray, List.map_cons, List.map_nil]); first | done | rfl | (simp only [List.length_drop, List.length_take]; rfl)) ?_
                with_reducible refine (Ref01.Plus.calls t157 t158 t159 t160 t161 t162 t163 t164 t165 t166 t167 t168 t181 t182 t183 t184 t185 t186 t187 t188 t189 t190 t191 t192 t193 t194 t195 t196 t197 t198 t199 t200 t201 t202 t203 t204 _ A6.out).mono ?_
                rintro e w68 ⟨rfl, hb⟩
                refine ⟨_, rfl, ?_⟩
                have n0_ := zK (zL (g := ae) (o := .cells #[.int .i64 a0_0, .int .u64 a0_1] 26 (0, 0)) (by (with_reducible repeat (first | refine zA ?_ _ | refine zC ?_ | refine zB ?_ _)); exact ad.out) hb)
                have n1_ := zK (zL (g := ag) (o := .cells #[.int .i64 a1_0, .int .u64 a1_1] 26 (0, 0)) (by (with_reducible repeat (first | refine zA ?_ _ | refine zC ?_ | refine zB ?_ _)); exact af.out) hb)
                have n2_ := zK (zI (by repeat (first | (with_reducible first | exact HB.out | apply zG | apply zE | apply zF | refine zD ?_ ak.out | refine zD ?_ am.out) | exact HB.out)) hb)
                clear ad
                clear af
                clear HB
                have ad := n0_
                have af := n1_
                have HB := n2_
                clear n0_ n1_ n2_
                (try clear hb)
                (try clear hb2)
                (try clear hk)
                (try clear hi)
                refine hK.out _ _ ⟨(zH ad.out 0).trans rfl, (zH ad.out 1).trans rfl, (zH af.out 0).trans rfl, (zH af.out 1).trans rfl⟩ (fun hHeld => ?_)
                clear hK K
                refine norm_ (a' := ?_) ?_ ?_
                rotate_left
                · show Act.put _ (some 11) _ = _
                  simp only [Act.put, List.setIfInBounds_toArray, List.set_cons_zero, List.set_cons_succ, i64_w, i32_w]
                  rfl
                exact norm_ (by first | (simp only [putAll, Act.put, List.setIfInBounds_toArray, List.set_cons_zero, List.set_cons_succ]; done) | (simp only [putAll, Act.put, List.setIfInBounds_toArray, List.set_cons_zero, List.set_cons_succ]; rfl)) (hJ1_3_4_5 () _ ⟨hHeld, (by (with_reducible repeat (first | refine zA ?_ _ | refine zC ?_ | refine zB ?_ _)); exact ad.out), (by (with_reducible repeat (first | refine zA ?_ _ | refine zC ?_ | refine zB ?_ _)); exact af.out), (by repeat (first | (with_reducible first | exact HB.out | apply zG | apply zE | apply zF | refine zD ?_ ak.out | refine zD ?_ am.out) | exact HB.out))⟩)
              · skip
                refine box_step ?hg (N := 5) ?hd (cs := #[.int .u64 0, .int .u64 0, .int .u64 0, .int .u64 0, .int .u64 0, .int .u64 0, .int .u64 0, .int .u64 0, .int .u64 0, .int .u64 0, .int .u64 0, .int .u64 0]) (t := 54) ?hr ?_; (case hd => rfl); (case hg => rfl); (case hr => first | (go_simp; done) | (go_simp; rfl))
                intro aa hg w68 hbox hb
                have n0_ := zK (zL (g := ae) (o := .cells #[.int .i64 a0_0, .int .u64 a0_1] 26 (0, 0)) (by (with_reducible repeat (first | refine zA ?_ _ | refine zC ?_ | refine zB ?_ _)); exact ad.out) hb)
                have n1_ := zK (zL (g := ag) (o := .cells #[.int .i64 a1_0, .int .u64 a1_1] 26 (0, 0)) (by (with_reducible repeat (first | refine zA ?_ _ | refine zC ?_ | refine zB ?_ _)); exact af.out) hb)
                have n2_ := zK (zI (by repeat (first | (with_reducible first | exact HB.out | apply zG | apply zE | apply zF | refine zD ?_ ak.out | refine zD ?_ am.out) | exact HB.out)) hb)
                have n3_ := zK (hbox)
                have n4_ := zK ((by rw [hg]; exact (zJ (by repeat (first | (with_reducible first | exact HB.out | apply zG | apply zE | apply zF | refine zD ?_ ak.out | refine zD ?_ am.out) | exact HB.out))) : w.heap.size ≤ aa))
                have n5_ := zK ((by rw [hg]; exact (zJ (by repeat (first | (with_reducible first | exact HB.out | apply zG | apply zE | apply zF | refine zD ?_ ak.out | refine zD ?_ am.out) | exact HB.out))) : w.heap.size ≤ aa))
                have n6_ := zK ((by rw [hg]; exact Nat.ne_of_lt (blk_lt (g := ae) (o := .cells #[.int .i64 a0_0, .int .u64 a0_1] 26 (0, 0)) (by (with_reducible repeat (first | refine zA ?_ _ | refine zC ?_ | refine zB ?_ _)); exact ad.out)) : ae ≠ aa))
                have n7_ := zK ((by rw [hg]; exact Nat.ne_of_gt (blk_lt (g := ae) (o := .cells #[.int .i64 a0_0, .int .u64 a0_1] 26 (0, 0)) (by (with_reducible repeat (first | refine zA ?_ _ | refine zC ?_ | refine zB ?_ _)); exact ad.out)) : aa ≠ ae))
                have n8_ := zK ((by rw [hg]; exact Nat.ne_of_lt (blk_lt (g := ag) (o := .cells #[.int .i64 a1_0, .int .u64 a1_1] 26 (0, 0)) (by (with_reducible repeat (first | refine zA ?_ _ | refine zC ?_ | refine zB ?_ _)); exact af.out)) : ag ≠ aa))
                have n9_ := zK ((by rw [hg]; exact Nat.ne_of_gt (blk_lt (g := ag) (o := .cells #[.int .i64 a1_0, .int .u64 a1_1] 26 (0, 0)) (by (with_reducible repeat (first | refine zA ?_ _ | refine zC ?_ | refine zB ?_ _)); exact af.out)) : aa ≠ ag))
                clear ad
                clear af
                clear HB
                have ad := n0_
                have af := n1_
                have HB := n2_
                have ah := n3_
                have ap := n4_
                have ao := n5_
                have ac := n6_
                have ai := n7_
                have ab := n8_
                have aj := n9_
                clear n0_ n1_ n2_ n3_ n4_ n5_ n6_ n7_ n8_ n9_
                clear hb hbox hg
                refine hK.out _ _ ⟨(zH ad.out 0).trans rfl, (zH ad.out 1).trans rfl, (zH af.out 0).trans rfl, (zH af.out 1).trans rfl⟩ (fun hHeld => ?_)
                clear hK K
                refine norm_ (a' := ?_) ?_ ?_
                rotate_left
                · show Act.put _ (some 5) _ = _
                  simp only [Act.put, List.setIfInBounds_toArray, List.set_cons_zero, List.set_cons_succ, i64_w, i32_w]
                  rfl
                exact norm_ (by first | (simp only [putAll, Act.put, List.setIfInBounds_toArray, List.set_cons_zero, List.set_cons_succ]; done) | (simp only [putAll, Act.put, List.setIfInBounds_toArray, List.set_cons_zero, List.set_cons_succ]; rfl)) (hJ1_3_4_6 (aa) _ ⟨hHeld, (by (with_reducible repeat (first | refine zA ?_ _ | refine zC ?_ | refine zB ?_ _)); exact ad.out), (by (with_reducible repeat (first | refine zA ?_ _ | refine zC ?_ | refine zB ?_ _)); exact af.out), (by (with_reducible repeat (first | refine zA ?_ _ | refine zC ?_ | refine zB ?_ _)); exact ah.out), ap.out, ao.out, ac.out, ai.out, ab.out, aj.out, (by repeat (first | (with_reducible first | exact HB.out | apply zG | apply zE | apply zF | refine zD ?_ ak.out | refine zD ?_ am.out | refine zD ?_ ao.out) | exact HB.out))⟩)
          · skip
            rintro aa w68 ⟨hS_, h0_, h1_, h2_, h3_, h4_, h5_, h6_, h7_, h8_, h9_⟩
            have n0_ : Aside0 (w68.heap[ae]? = some (.cells #[.int .i64 a0_0, .int .u64 a0_1] 26 (0, 0))) := ⟨h0_⟩
            have n1_ : Aside0 (w68.heap[ag]? = some (.cells #[.int .i64 a1_0, .int .u64 a1_1] 26 (0, 0))) := ⟨h1_⟩
            have n2_ : Aside0 (w68.heap[aa]? = some (.cells #[.int .u64 0, .int .u64 0, .int .u64 0, .int .u64 0, .int .u64 0, .int .u64 0, .int .u64 0, .int .u64 0, .int .u64 0, .int .u64 0, .int .u64 0, .int .u64 0] 54 (0, 0))) := ⟨h2_⟩
            have n3_ : Aside0 (w.heap.size ≤ aa) := ⟨h3_⟩
            have n4_ : Aside0 (w.heap.size ≤ aa) := ⟨h4_⟩
            have n5_ : Aside0 (ae ≠ aa) := ⟨h5_⟩
            have n6_ : Aside0 (aa ≠ ae) := ⟨h6_⟩
            have n7_ : Aside0 (ag ≠ aa) := ⟨h7_⟩
            have n8_ : Aside0 (aa ≠ ag) := ⟨h8_⟩
            have n9_ : Aside0 (Below w.heap.size w w68) := ⟨h9_⟩
            clear ad
            clear af
            clear HB
            clear h0_ h1_ h2_ h3_ h4_ h5_ h6_ h7_ h8_ h9_
            have ad := n0_
            have af := n1_
            have ah := n2_
            have ap := n3_
            have ao := n4_
            have ac := n5_
            have ai := n6_
            have ab := n7_
            have aj := n8_
            have HB := n9_
            clear n0_ n1_ n2_ n3_ n4_ n5_ n6_ n7_ n8_ n9_
            have hHeld : w68.cell? ⟨ae, 0, none⟩ = some (.int .i64 a0_0) ∧ w68.cell? ⟨ae, 1, none⟩ = some (.int .u64 a0_1) ∧ w68.cell? ⟨ag, 0, none⟩ = some (.int .i64 a1_0) ∧ w68.cell? ⟨ag, 1, none⟩ = some (.int .u64 a1_1) := hS_
            refine norm_ (a' := ?_) ?_ ?_
            rotate_left
            · simp only [putAll, Act.put, List.setIfInBounds_toArray, List.set_cons_zero, List.set_cons_succ]
              rfl
            refine one_ (i := 5) (N := some 11) #[true, true, true, true, true, true, true, false] rfl rfl (one_of HT_.out (by kernel_rfl)) (by decide) (fun K hK => ?_)
            refine goes_ Try.func35 (by kernel_rfl) rfl #[.agg #[.int .u64 t157, .int .u64 t158, .int .u64 t159, .int .u64 t160, .int .u64 t161, .int .u64 t162, .int .u64 t163, .int .u64 t164, .int .u64 t165, .int .u64 t166, .int .u64 t167, .int .u64 t168], .agg #[.int .u64 t181, .int .u64 t182, .int .u64 t183, .int .u64 t184, .int .u64 t185, .int .u64 t186, .int .u64 t187, .int .u64 t188, .int .u64 t189, .int .u64 t190, .int .u64 t191, .int .u64 t192]] (by rfl) rfl rfl (by (try simp only [List.map_toArray, List.map_cons, List.map_nil]); first | done | rfl | (simp only [List.length_drop, List.length_take]; rfl)) ?_
            with_reducible refine (Ref01.Plus.calls t157 t158 t159 t160 t161 t162 t163 t164 t165 t166 t167 t168 t181 t182 t183 t184 t185 t186 t187 t188 t189 t190 t191 t192 t193 t194 t195 t196 t197 t198 t199 t200 t201 t202 t203 t204 _ A6.out).mono ?_
            rintro e w69 ⟨rfl, hb⟩
            refine ⟨_, rfl, ?_⟩
            have n0_ := zK (zL (g := ae) (o := .cells #[.int .i64 a0_0, .int .u64 a0_1] 26 (0, 0)) (by (with_reducible repeat (first | refine zA ?_ _ | refine zC ?_ | refine zB ?_ _)); exact ad.out) hb)
            have n1_ := zK (zL (g := ag) (o := .cells #[.int .i64 a1_0, .int .u64 a1_1] 26 (0, 0)) (by (with_reducible repeat (first | refine zA ?_ _ | refine zC ?_ | refine zB ?_ _)); exact af.out) hb)
            have n2_ := zK (zL (g := aa) (o := .cells #[.int .u64 0, .int .u64 0, .int .u64 0, .int .u64 0, .int .u64 0, .int .u64 0, .int .u64 0, .int .u64 0, .int .u64 0, .int .u64 0, .int .u64 0, .int .u64 0] 54 (0, 0)) (by (with_reducible repeat (first | refine zA ?_ _ | refine zC ?_ | refine zB ?_ _)); exact ah.out) hb)
            have n3_ := zK (zI (by repeat (first | (with_reducible first | exact HB.out | apply zG | apply zE | apply zF | refine zD ?_ ak.out | refine zD ?_ am.out | refine zD ?_ ao.out) | exact HB.out)) hb)
            clear ad
            clear af
            clear ah
            clear HB
            have ad := n0_
            have af := n1_
            have ah := n2_
            have HB := n3_
            clear n0_ n1_ n2_ n3_
            (try clear hb)
            (try clear hb2)
            (try clear hk)
            (try clear hi)
            refine hK.out _ _ ⟨(zH ad.out 0).trans rfl, (zH ad.out 1).trans rfl, (zH af.out 0).trans rfl, (zH af.out 1).trans rfl⟩ (fun hHeld => ?_)
            clear hK K
            refine norm_ (a' := ?_) ?_ ?_
            rotate_left
            · show Act.put _ (some 11) _ = _
              simp only [Act.put, List.setIfInBounds_toArray, List.set_cons_zero, List.set_cons_succ, i64_w, i32_w]
              rfl
            exact norm_ (by first | (simp only [putAll, Act.put, List.setIfInBounds_toArray, List.set_cons_zero, List.set_cons_succ]; done) | (simp only [putAll, Act.put, List.setIfInBounds_toArray, List.set_cons_zero, List.set_cons_succ]; rfl)) (hJ1_3_4_5_6 (aa) _ ⟨hHeld, (by (with_reducible repeat (first | refine zA ?_ _ | refine zC ?_ | refine zB ?_ _)); exact ad.out), (by (with_reducible repeat (first | refine zA ?_ _ | refine zC ?_ | refine zB ?_ _)); exact af.out), (by (with_reducible repeat (first | refine zA ?_ _ | refine zC ?_ | refine zB ?_ _)); exact ah.out), ap.out, ao.out, ac.out, ai.out, ab.out, aj.out, (by repeat (first | (with_reducible first | exact HB.out | apply zG | apply zE | apply zF | refine zD ?_ ak.out | refine zD ?_ am.out | refine zD ?_ ao.out) | exact HB.out))⟩)
        · skip
          rintro _ w68 ⟨hS_, h0_, h1_, h2_⟩
          have n0_ : Aside0 (w68.heap[ae]? = some (.cells #[.int .i64 a0_0, .int .u64 a0_1] 26 (0, 0))) := ⟨h0_⟩
          have n1_ : Aside0 (w68.heap[ag]? = some (.cells #[.int .i64 a1_0, .int .u64 a1_1] 26 (0, 0))) := ⟨h1_⟩
          have n2_ : Aside0 (Below w.heap.size w w68) := ⟨h2_⟩
          clear ad
          clear af
          clear HB
          clear h0_ h1_ h2_
          have ad := n0_
          have af := n1_
          have HB := n2_
          clear n0_ n1_ n2_
          have hHeld : w68.cell? ⟨ae, 0, none⟩ = some (.int .i64 a0_0) ∧ w68.cell? ⟨ae, 1, none⟩ = some (.int .u64 a0_1) ∧ w68.cell? ⟨ag, 0, none⟩ = some (.int .i64 a1_0) ∧ w68.cell? ⟨ag, 1, none⟩ = some (.int .u64 a1_1) := hS_
          refine norm_ (a' := ?_) ?_ ?_
          rotate_left
          · simp only [putAll, Act.put, List.setIfInBounds_toArray, List.set_cons_zero, List.set_cons_succ]
            rfl
          refine one_ (i := 6) (N := some 5) #[true, true, true, true, true, true, true, false] rfl rfl (one_of HT_.out (by kernel_rfl)) (by decide) (fun K hK => ?_)
          refine box_step ?hg (N := 5) ?hd (cs := #[.int .u64 0, .int .u64 0, .int .u64 0, .int .u64 0, .int .u64 0, .int .u64 0, .int .u64 0, .int .u64 0, .int .u64 0, .int .u64 0, .int .u64 0, .int .u64 0]) (t := 54) ?hr ?_; (case hd => rfl); (case hg => rfl); (case hr => first | (go_simp; done) | (go_simp; rfl))
          intro aa hg w69 hbox hb
          have n0_ := zK (zL (g := ae) (o := .cells #[.int .i64 a0_0, .int .u64 a0_1] 26 (0, 0)) (by (with_reducible repeat (first | refine zA ?_ _ | refine zC ?_ | refine zB ?_ _)); exact ad.out) hb)
          have n1_ := zK (zL (g := ag) (o := .cells #[.int .i64 a1_0, .int .u64 a1_1] 26 (0, 0)) (by (with_reducible repeat (first | refine zA ?_ _ | refine zC ?_ | refine zB ?_ _)); exact af.out) hb)
          have n2_ := zK (zI (by repeat (first | (with_reducible first | exact HB.out | apply zG | apply zE | apply zF | refine zD ?_ ak.out | refine zD ?_ am.out) | exact HB.out)) hb)
          have n3_ := zK (hbox)
          have n4_ := zK ((by rw [hg]; exact (zJ (by repeat (first | (with_reducible first | exact HB.out | apply zG | apply zE | apply zF | refine zD ?_ ak.out | refine zD ?_ am.out) | exact HB.out))) : w.heap.size ≤ aa))
          have n5_ := zK ((by rw [hg]; exact (zJ (by repeat (first | (with_reducible first | exact HB.out | apply zG | apply zE | apply zF | refine zD ?_ ak.out | refine zD ?_ am.out) | exact HB.out))) : w.heap.size ≤ aa))
          have n6_ := zK ((by rw [hg]; exact Nat.ne_of_lt (blk_lt (g := ae) (o := .cells #[.int .i64 a0_0, .int .u64 a0_1] 26 (0, 0)) (by (with_reducible repeat (first | refine zA ?_ _ | refine zC ?_ | refine zB ?_ _)); exact ad.out)) : ae ≠ aa))
          have n7_ := zK ((by rw [hg]; exact Nat.ne_of_gt (blk_lt (g := ae) (o := .cells #[.int .i64 a0_0, .int .u64 a0_1] 26 (0, 0)) (by (with_reducible repeat (first | refine zA ?_ _ | refine zC ?_ | refine zB ?_ _)); exact ad.out)) : aa ≠ ae))
          have n8_ := zK ((by rw [hg]; exact Nat.ne_of_lt (blk_lt (g := ag) (o := .cells #[.int .i64 a1_0, .int .u64 a1_1] 26 (0, 0)) (by (with_reducible repeat (first | refine zA ?_ _ | refine zC ?_ | refine zB ?_ _)); exact af.out)) : ag ≠ aa))
          have n9_ := zK ((by rw [hg]; exact Nat.ne_of_gt (blk_lt (g := ag) (o := .cells #[.int .i64 a1_0, .int .u64 a1_1] 26 (0, 0)) (by (with_reducible repeat (first | refine zA ?_ _ | refine zC ?_ | refine zB ?_ _)); exact af.out)) : aa ≠ ag))
          clear ad
          clear af
          clear HB
          have ad := n0_
          have af := n1_
          have HB := n2_
          have ah := n3_
          have ap := n4_
          have ao := n5_
          have ac := n6_
          have ai := n7_
          have ab := n8_
          have aj := n9_
          clear n0_ n1_ n2_ n3_ n4_ n5_ n6_ n7_ n8_ n9_
          clear hb hbox hg
          refine hK.out _ _ ⟨(zH ad.out 0).trans rfl, (zH ad.out 1).trans rfl, (zH af.out 0).trans rfl, (zH af.out 1).trans rfl⟩ (fun hHeld => ?_)
          clear hK K
          refine norm_ (a' := ?_) ?_ ?_
          rotate_left
          · show Act.put _ (some 5) _ = _
            simp only [Act.put, List.setIfInBounds_toArray, List.set_cons_zero, List.set_cons_succ, i64_w, i32_w]
            rfl
          exact norm_ (by first | (simp only [putAll, Act.put, List.setIfInBounds_toArray, List.set_cons_zero, List.set_cons_succ]; done) | (simp only [putAll, Act.put, List.setIfInBounds_toArray, List.set_cons_zero, List.set_cons_succ]; rfl)) (hJ1_3_4_5_6 (aa) _ ⟨hHeld, (by (with_reducible repeat (first | refine zA ?_ _ | refine zC ?_ | refine zB ?_ _)); exact ad.out), (by (with_reducible repeat (first | refine zA ?_ _ | refine zC ?_ | refine zB ?_ _)); exact af.out), (by (with_reducible repeat (first | refine zA ?_ _ | refine zC ?_ | refine zB ?_ _)); exact ah.out), ap.out, ao.out, ac.out, ai.out, ab.out, aj.out, (by repeat (first | (with_reducible first | exact HB.out | apply zG | apply zE | apply zF | refine zD ?_ ak.out | refine zD ?_ am.out | refine zD ?_ ao.out) | exact HB.out))⟩)
      rintro aa w69 ⟨hS_, h0_, h1_, h2_, h3_, h4_, h5_, h6_, h7_, h8_, h9_⟩
      have n0_ : Aside0 (w69.heap[ae]? = some (.cells #[.int .i64 a0_0, .int .u64 a0_1] 26 (0, 0))) := ⟨h0_⟩
      have n1_ : Aside0 (w69.heap[ag]? = some (.cells #[.int .i64 a1_0, .int .u64 a1_1] 26 (0, 0))) := ⟨h1_⟩
      have n2_ : Aside0 (w69.heap[aa]? = some (.cells #[.int .u64 0, .int .u64 0, .int .u64 0, .int .u64 0, .int .u64 0, .int .u64 0, .int .u64 0, .int .u64 0, .int .u64 0, .int .u64 0, .int .u64 0, .int .u64 0] 54 (0, 0))) := ⟨h2_⟩
      have n3_ : Aside0 (w.heap.size ≤ aa) := ⟨h3_⟩
      have n4_ : Aside0 (w.heap.size ≤ aa) := ⟨h4_⟩
      have n5_ : Aside0 (ae ≠ aa) := ⟨h5_⟩
      have n6_ : Aside0 (aa ≠ ae) := ⟨h6_⟩
      have n7_ : Aside0 (ag ≠ aa) := ⟨h7_⟩
      have n8_ : Aside0 (aa ≠ ag) := ⟨h8_⟩
      have n9_ : Aside0 (Below w.heap.size w w69) := ⟨h9_⟩
      clear ad
      clear af
      clear HB
      clear h0_ h1_ h2_ h3_ h4_ h5_ h6_ h7_ h8_ h9_
      have ad := n0_
      have af := n1_
      have ah := n2_
      have ap := n3_
      have ao := n4_
      have ac := n5_
      have ai := n6_
      have ab := n7_
      have aj := n8_
      have HB := n9_
      clear n0_ n1_ n2_ n3_ n4_ n5_ n6_ n7_ n8_ n9_
      have hHeld : w69.cell? ⟨ae, 0, none⟩ = some (.int .i64 a0_0) ∧ w69.cell? ⟨ae, 1, none⟩ = some (.int .u64 a0_1) ∧ w69.cell? ⟨ag, 0, none⟩ = some (.int .i64 a1_0) ∧ w69.cell? ⟨ag, 1, none⟩ = some (.int .u64 a1_1) := hS_
      refine norm_ (a' := ?_) ?_ ?_
      rotate_left
      · simp only [putAll, Act.put, List.setIfInBounds_toArray, List.set_cons_zero, List.set_cons_succ]
        rfl
      refine one_ (i := 7) (N := none) #[true, true, true, true, true, true, true, true] rfl rfl (one_of HT_.out (by kernel_rfl)) (by decide) (fun K hK => ?_)
      have hs70 : w69.cell? ⟨aa, 0, none⟩ = some (.int .u64 0) := (zH ah.out 0).trans rfl
      have hfs70 := blk_frozen ah.out 0
      have hns70_0 := ac.out
      have hns70_1 := ab.out
      have hms70_0 := ai.out
      have hms70_1 := aj.out
      have hs71 : w69.cell? ⟨aa, 1, none⟩ = some (.int .u64 0) := (zH ah.out 1).trans rfl
      have hfs71 := blk_frozen ah.out 1
      have hns71_0 := ac.out
      have hns71_1 := ab.out
      have hms71_0 := ai.out
      have hms71_1 := aj.out
      have hs72 : w69.cell? ⟨aa, 2, none⟩ = some (.int .u64 0) := (zH ah.out 2).trans rfl
      have hfs72 := blk_frozen ah.out 2
      have hns72_0 := ac.out
      have hns72_1 := ab.out
      have hms72_0 := ai.out
      have hms72_1 := aj.out
      have hs73 : w69.cell? ⟨aa, 3, none⟩ = some (.int .u64 0) := (zH ah.out 3).trans rfl
      have hfs73 := blk_frozen ah.out 3
      have hns73_0 := ac.out
      have hns73_1 := ab.out
      have hms73_0 := ai.out
      have hms73_1 := aj.out
      have hs74 : w69.cell? ⟨aa, 4, none⟩ = some (.int .u64 0) := (zH ah.out 4).trans rfl
      have hfs74 := blk_frozen ah.out 4
      have hns74_0 := ac.out
      have hns74_1 := ab.out
      have hms74_0 := ai.out
      have hms74_1 := aj.out
      have hs75 : w69.cell? ⟨aa, 5, none⟩ = some (.int .u64 0) := (zH ah.out 5).trans rfl
      have hfs75 := blk_frozen ah.out 5
      have hns75_0 := ac.out
      have hns75_1 := ab.out
      have hms75_0 := ai.out
      have hms75_1 := aj.out
      have hs76 : w69.cell? ⟨aa, 6, none⟩ = some (.int .u64 0) := (zH ah.out 6).trans rfl
      have hfs76 := blk_frozen ah.out 6
      have hns76_0 := ac.out
      have hns76_1 := ab.out
      have hms76_0 := ai.out
      have hms76_1 := aj.out
      have hs77 : w69.cell? ⟨aa, 7, none⟩ = some (.int .u64 0) := (zH ah.out 7).trans rfl
      have hfs77 := blk_frozen ah.out 7
      have hns77_0 := ac.out
      have hns77_1 := ab.out
      have hms77_0 := ai.out
      have hms77_1 := aj.out
      have hs78 : w69.cell? ⟨aa, 8, none⟩ = some (.int .u64 0) := (zH ah.out 8).trans rfl
      have hfs78 := blk_frozen ah.out 8
      have hns78_0 := ac.out
      have hns78_1 := ab.out
      have hms78_0 := ai.out
      have hms78_1 := aj.out
      have hs79 : w69.cell? ⟨aa, 9, none⟩ = some (.int .u64 0) := (zH ah.out 9).trans rfl
      have hfs79 := blk_frozen ah.out 9
      have hns79_0 := ac.out
      have hns79_1 := ab.out
      have hms79_0 := ai.out
      have hms79_1 := aj.out
      have hs80 : w69.cell? ⟨aa, 10, none⟩ = some (.int .u64 0) := (zH ah.out 10).trans rfl
      have hfs80 := blk_frozen ah.out 10
      have hns80_0 := ac.out
      have hns80_1 := ab.out
      have hms80_0 := ai.out
      have hms80_1 := aj.out
      have hs81 : w69.cell? ⟨aa, 11, none⟩ = some (.int .u64 0) := (zH ah.out 11).trans rfl
      have hfs81 := blk_frozen ah.out 11
      have hns81_0 := ac.out
      have hns81_1 := ab.out
      have hms81_0 := ai.out
      have hms81_1 := aj.out
      refine skip_ (w1 := ?_) (by rfl) rfl ?_ ?_
      rotate_left
      · go_simp
        rfl
      refine hK.out _ _ ⟨((cell_far (p := ⟨aa, _, none⟩) ac.out _).trans (((cell_far (p := ⟨aa, _, none⟩) ac.out _).trans (((cell_far (p := ⟨aa, _, none⟩) ac.out _).trans (((cell_far (p := ⟨aa, _, none⟩) ac.out _).trans (((cell_far (p := ⟨aa, _, none⟩) ac.out _).trans (((cell_far (p := ⟨aa, _, none⟩) ac.out _).trans (((cell_far (p := ⟨aa, _, none⟩) ac.out _).trans (((cell_far (p := ⟨aa, _, none⟩) ac.out _).trans (((cell_far (p := ⟨aa, _, none⟩) ac.out _).trans (((cell_far (p := ⟨aa, _, none⟩) ac.out _).trans (((cell_far (p := ⟨aa, _, none⟩) ac.out _).trans (((cell_far (p := ⟨aa, _, none⟩) ac.out _).trans (hHeld.1)))))))))))))))))))))))), ((cell_far (p := ⟨aa, _, none⟩) ac.out _).trans (((cell_far (p := ⟨aa, _, none⟩) ac.out _).trans (((cell_far (p := ⟨aa, _, none⟩) ac.out _).trans (((cell_far (p := ⟨aa, _, none⟩) ac.out _).trans (((cell_far (p := ⟨aa, _, none⟩) ac.out _).trans (((cell_far (p := ⟨aa, _, none⟩) ac.out _).trans (((cell_far (p := ⟨aa, _, none⟩) ac.out _).trans (((cell_far (p := ⟨aa, _, none⟩) ac.out _).trans (((cell_far (p := ⟨aa, _, none⟩) ac.out _).trans (((cell_far (p := ⟨aa, _, none⟩) ac.out _).trans (((cell_far (p := ⟨aa, _, none⟩) ac.out _).trans (((cell_far (p := ⟨aa, _, none⟩) ac.out _).trans (hHeld.2.1)))))))))))))))))))))))), ((cell_far (p := ⟨aa, _, none⟩) ab.out _).trans (((cell_far (p := ⟨aa, _, none⟩) ab.out _).trans (((cell_far (p := ⟨aa, _, none⟩) ab.out _).trans (((cell_far (p := ⟨aa, _, none⟩) ab.out _).trans (((cell_far (p := ⟨aa, _, none⟩) ab.out _).trans (((cell_far (p := ⟨aa, _, none⟩) ab.out _).trans (((cell_far (p := ⟨aa, _, none⟩) ab.out _).trans (((cell_far (p := ⟨aa, _, none⟩) ab.out _).trans (((cell_far (p := ⟨aa, _, none⟩) ab.out _).trans (((cell_far (p := ⟨aa, _, none⟩) ab.out _).trans (((cell_far (p := ⟨aa, _, none⟩) ab.out _).trans (((cell_far (p := ⟨aa, _, none⟩) ab.out _).trans (hHeld.2.2.1)))))))))))))))))))))))), ((cell_far (p := ⟨aa, _, none⟩) ab.out _).trans (((cell_far (p := ⟨aa, _, none⟩) ab.out _).trans (((cell_far (p := ⟨aa, _, none⟩) ab.out _).trans (((cell_far (p := ⟨aa, _, none⟩) ab.out _).trans (((cell_far (p := ⟨aa, _, none⟩) ab.out _).trans (((cell_far (p := ⟨aa, _, none⟩) ab.out _).trans (((cell_far (p := ⟨aa, _, none⟩) ab.out _).trans (((cell_far (p := ⟨aa, _, none⟩) ab.out _).trans (((cell_far (p := ⟨aa, _, none⟩) ab.out _).trans (((cell_far (p := ⟨aa, _, none⟩) ab.out _).trans (((cell_far (p := ⟨aa, _, none⟩) ab.out _).trans (((cell_far (p := ⟨aa, _, none⟩) ab.out _).trans (hHeld.2.2.2))))))))))))))))))))))))⟩ (fun hHeld => ?_)
      clear hK K
      refine done_ (done_of HT_.out (by kernel_rfl)) ?_
      have c1 := ai.out
      have c4 := ac.out
      have c6 := aj.out
      have c9 := ab.out
      have cu : w69.cell? ⟨aa, 0, none⟩ = some (.int .u64 0) := (zH ah.out 0).trans rfl
      have a0 : w69.cell? ⟨aa, 1, none⟩ = some (.int .u64 0) := (zH ah.out 1).trans rfl
      have ck : w69.cell? ⟨aa, 2, none⟩ = some (.int .u64 0) := (zH ah.out 2).trans rfl
      have co : w69.cell? ⟨aa, 3, none⟩ = some (.int .u64 0) := (zH ah.out 3).trans rfl
      have ci : w69.cell? ⟨aa, 4, none⟩ = some (.int .u64 0) := (zH ah.out 4).trans rfl
      have aT : w69.cell? ⟨aa, 5, none⟩ = some (.int .u64 0) := (zH ah.out 5).trans rfl
      have bR : w69.cell? ⟨aa, 6, none⟩ = some (.int .u64 0) := (zH ah.out 6).trans rfl
      have ct : w69.cell? ⟨aa, 7, none⟩ = some (.int .u64 0) := (zH ah.out 7).trans rfl
      have b5 : w69.cell? ⟨aa, 8, none⟩ = some (.int .u64 0) := (zH ah.out 8).trans rfl
      have b6 : w69.cell? ⟨aa, 9, none⟩ = some (.int .u64 0) := (zH ah.out 9).trans rfl
      have a9 : w69.cell? ⟨aa, 10, none⟩ = some (.int .u64 0) := (zH ah.out 10).trans rfl
      have aJ : w69.cell? ⟨aa, 11, none⟩ = some (.int .u64 0) := (zH ah.out 11).trans rfl
      have b2 := blk_frozen ah.out 0
      have a3 := blk_frozen ah.out 1
      have cn := blk_frozen ah.out 2
      have bx := blk_frozen ah.out 3
      have bP := blk_frozen ah.out 4
      have ba := blk_frozen ah.out 5
      have bf := blk_frozen ah.out 6
      have aY := blk_frozen ah.out 7
      have bl := blk_frozen ah.out 8
      have bD := blk_frozen ah.out 9
      have aI := blk_frozen ah.out 10
      have aN := blk_frozen ah.out 11
      try go_wp2_with (first | ((with_reducible refine gate_callee (f := 39) rfl ?_); refine goesL_ (some 13) rfl rfl Try.func39 (by kernel_rfl) rfl #[.agg #[.int .u64 t193, .int .u64 t194, .int .u64 t195, .int .u64 t196, .int .u64 t197, .int .u64 t198, .int .u64 t199, .int .u64 t200, .int .u64 t201, .int .u64 t202, .int .u64 t203, .int .u64 t204]] rfl (by (try simp only [List.map_toArray, List.map_cons, List.map_nil]); first | done | rfl | (simp only [List.length_drop, List.length_take]; rfl)) ?_; (with_reducible refine (Ref01.IsBelow.calls t193 t194 t195 t196 t197 t198 t199 t200 t201 t202 t203 t204 false _ A7.out).mono ?_); rintro e w85 ⟨rfl, hb⟩; refine ⟨_, rfl, ?_⟩; have n0_ := zK (zL (g := ae) (o := .cells #[.int .i64 a0_0, .int .u64 a0_1] 26 (0, 0)) (by (with_reducible repeat (first | refine zA ?_ _ | refine zC ?_ | refine zB ?_ _)); refine blk_far ?_ ac.out _; (with_reducible repeat (first | refine zA ?_ _ | refine zC ?_ | refine zB ?_ _)); refine blk_far ?_ ac.out _; (with_reducible repeat (first | refine zA ?_ _ | refine zC ?_ | refine zB ?_ _)); refine blk_far ?_ ac.out _; (with_reducible repeat (first | refine zA ?_ _ | refine zC ?_ | refine zB ?_ _)); refine blk_far ?_ ac.out _; (with_reducible repeat (first | refine zA ?_ _ | refine zC ?_ | refine zB ?_ _)); refine blk_far ?_ ac.out _; (with_reducible repeat (first | refine zA ?_ _ | refine zC ?_ | refine zB ?_ _)); refine blk_far ?_ ac.out _; (with_reducible repeat (first | refine zA ?_ _ | refine zC ?_ | refine zB ?_ _)); refine blk_far ?_ ac.out _; (with_reducible repeat (first | refine zA ?_ _ | refine zC ?_ | refine zB ?_ _)); refine blk_far ?_ ac.out _; (with_reducible repeat (first | refine zA ?_ _ | refine zC ?_ | refine zB ?_ _)); refine blk_far ?_ ac.out _; (with_reducible repeat (first | refine zA ?_ _ | refine zC ?_ | refine zB ?_ _)); refine blk_far ?_ ac.out _; (with_reducible repeat (first | refine zA ?_ _ | refine zC ?_ | refine zB ?_ _)); refine blk_far ?_ ac.out _; (with_reducible repeat (first | refine zA ?_ _ | refine zC ?_ | refine zB ?_ _)); refine blk_far ?_ ac.out _; (with_reducible repeat (first | refine zA ?_ _ | refine zC ?_ | refine zB ?_ _)); exact ad.out) hb); have n1_ := zK (zL (g := ag) (o := .cells #[.int .i64 a1_0, .int .u64 a1_1] 26 (0, 0)) (by (with_reducible repeat (first | refine zA ?_ _ | refine zC ?_ | refine zB ?_ _)); refine blk_far ?_ ab.out _; (with_reducible repeat (first | refine zA ?_ _ | refine zC ?_ | refine zB ?_ _)); refine blk_far ?_ ab.out _; (with_reducible repeat (first | refine zA ?_ _ | refine zC ?_ | refine zB ?_ _)); refine blk_far ?_ ab.out _; (with_reducible repeat (first | refine zA ?_ _ | refine zC ?_ | refine zB ?_ _)); refine blk_far ?_ ab.out _; (with_reducible repeat (first | refine zA ?_ _ | refine zC ?_ | refine zB ?_ _)); refine blk_far ?_ ab.out _; (with_reducible repeat (first | refine zA ?_ _ | refine zC ?_ | refine zB ?_ _)); refine blk_far ?_ ab.out _; (with_reducible repeat (first | refine zA ?_ _ | refine zC ?_ | refine zB ?_ _)); refine blk_far ?_ ab.out _; (with_reducible repeat (first | refine zA ?_ _ | refine zC ?_ | refine zB ?_ _)); refine blk_far ?_ ab.out _; (with_reducible repeat (first | refine zA ?_ _ | refine zC ?_ | refine zB ?_ _)); refine blk_far ?_ ab.out _; (with_reducible repeat (first | refine zA ?_ _ | refine zC ?_ | refine zB ?_ _)); refine blk_far ?_ ab.out _; (with_reducible repeat (first | refine zA ?_ _ | refine zC ?_ | refine zB ?_ _)); refine blk_far ?_ ab.out _; (with_reducible repeat (first | refine zA ?_ _ | refine zC ?_ | refine zB ?_ _)); refine blk_far ?_ ab.out _; (with_reducible repeat (first | refine zA ?_ _ | refine zC ?_ | refine zB ?_ _)); exact af.out) hb); have n2_ := zK (zL (g := aa) (o := .cells #[.int .u64 t193, .int .u64 t194, .int .u64 t195, .int .u64 t196, .int .u64 t197, .int .u64 t198, .int .u64 t199, .int .u64 t200, .int .u64 t201, .int .u64 t202, .int .u64 t203, .int .u64 t204] 54 (0, 0)) (by (with_reducible repeat (first | refine zA ?_ _ | refine zC ?_ | refine zB ?_ _)); refine blk_put (cs := #[.int .u64 t193, .int .u64 t194, .int .u64 t195, .int .u64 t196, .int .u64 t197, .int .u64 t198, .int .u64 t199, .int .u64 t200, .int .u64 t201, .int .u64 t202, .int .u64 t203, .int .u64 0]) ?_ 11 _ rfl; (with_reducible repeat (first | refine zA ?_ _ | refine zC ?_ | refine zB ?_ _)); refine blk_put (cs := #[.int .u64 t193, .int .u64 t194, .int .u64 t195, .int .u64 t196, .int .u64 t197, .int .u64 t198, .int .u64 t199, .int .u64 t200, .int .u64 t201, .int .u64 t202, .int .u64 0, .int .u64 0]) ?_ 10 _ rfl; (with_reducible repeat (first | refine zA ?_ _ | refine zC ?_ | refine zB ?_ _)); refine blk_put (cs := #[.int .u64 t193, .int .u64 t194, .int .u64 t195, .int .u64 t196, .int .u64 t197, .int .u64 t198, .int .u64 t199, .int .u64 t200, .int .u64 t201, .int .u64 0, .int .u64 0, .int .u64 0]) ?_ 9 _ rfl; (with_reducible repeat (first | refine zA ?_ _ | refine zC ?_ | refine zB ?_ _)); refine blk_put (cs := #[.int .u64 t193, .int .u64 t194, .int .u64 t195, .int .u64 t196, .int .u64 t197, .int .u64 t198, .int .u64 t199, .int .u64 t200, .int .u64 0, .int .u64 0, .int .u64 0, .int .u64 0]) ?_ 8 _ rfl; (with_reducible repeat (first | refine zA ?_ _ | refine zC ?_ | refine zB ?_ _)); refine blk_put (cs := #[.int .u64 t193, .int .u64 t194, .int .u64 t195, .int .u64 t196, .int .u64 t197, .int .u64 t198, .int .u64 t199, .int .u64 0, .int .u64 0, .int .u64 0, .int .u64 0, .int .u64 0]) ?_ 7 _ rfl; (with_reducible repeat (first | refine zA ?_ _ | refine zC ?_ | refine zB ?_ _)); refine blk_put (cs := #[.int .u64 t193, .int .u64 t194, .int .u64 t195, .int .u64 t196, .int .u64 t197, .int .u64 t198, .int .u64 0, .int .u64 0, .int .u64 0, .int .u64 0, .int .u64 0, .int .u64 0]) ?_ 6 _ rfl; (with_reducible repeat (first | refine zA ?_ _ | refine zC ?_ | refine zB ?_ _)); refine blk_put (cs := #[.int .u64 t193, .int .u64 t194, .int .u64 t195, .int .u64 t196, .int .u64 t197, .int .u64 0, .int .u64 0, .int .u64 0, .int .u64 0, .int .u64 0, .int .u64 0, .int .u64 0]) ?_ 5 _ rfl; (with_reducible repeat (first | refine zA ?_ _ | refine zC ?_ | refine zB ?_ _)); refine blk_put (cs := #[.int .u64 t193, .int .u64 t194, .int .u64 t195, .int .u64 t196, .int .u64 0, .int .u64 0, .int .u64 0, .int .u64 0, .int .u64 0, .int .u64 0, .int .u64 0, .int .u64 0]) ?_ 4 _ rfl; (with_reducible repeat (first | refine zA ?_ _ | refine zC ?_ | refine zB ?_ _)); refine blk_put (cs := #[.int .u64 t193, .int .u64 t194, .int .u64 t195, .int .u64 0, .int .u64 0, .int .u64 0, .int .u64 0, .int .u64 0, .int .u64 0, .int .u64 0, .int .u64 0, .int .u64 0]) ?_ 3 _ rfl; (with_reducible repeat (first | refine zA ?_ _ | refine zC ?_ | refine zB ?_ _)); refine blk_put (cs := #[.int .u64 t193, .int .u64 t194, .int .u64 0, .int .u64 0, .int .u64 0, .int .u64 0, .int .u64 0, .int .u64 0, .int .u64 0, .int .u64 0, .int .u64 0, .int .u64 0]) ?_ 2 _ rfl; (with_reducible repeat (first | refine zA ?_ _ | refine zC ?_ | refine zB ?_ _)); refine blk_put (cs := #[.int .u64 t193, .int .u64 0, .int .u64 0, .int .u64 0, .int .u64 0, .int .u64 0, .int .u64 0, .int .u64 0, .int .u64 0, .int .u64 0, .int .u64 0, .int .u64 0]) ?_ 1 _ rfl; (with_reducible repeat (first | refine zA ?_ _ | refine zC ?_ | refine zB ?_ _)); refine blk_put (cs := #[.int .u64 0, .int .u64 0, .int .u64 0, .int .u64 0, .int .u64 0, .int .u64 0, .int .u64 0, .int .u64 0, .int .u64 0, .int .u64 0, .int .u64 0, .int .u64 0]) ?_ 0 _ rfl; (with_reducible repeat (first | refine zA ?_ _ | refine zC ?_ | refine zB ?_ _)); exact ah.out) hb); have n3_ := zK (zI (by repeat (first | (with_reducible first | exact HB.out | apply zG | apply zE | apply zF | refine zD ?_ ak.out | refine zD ?_ am.out | refine zD ?_ ao.out) | exact HB.out)) hb); clear ad; clear af; clear ah; clear HB; have ad := n0_; have af := n1_; have ah := n2_; have HB := n3_; clear n0_ n1_ n2_ n3_; (try clear hb); (try clear hb2); (try clear hk); (try clear hi); have bC : w85.cell? ⟨aa, 0, none⟩ = some (.int .u64 t193) := (zH ah.out 0).trans rfl; have a1 : w85.cell? ⟨aa, 1, none⟩ = some (.int .u64 t194) := (zH ah.out 1).trans rfl; have aV : w85.cell? ⟨aa, 2, none⟩ = some (.int .u64 t195) := (zH ah.out 2).trans rfl; have bq : w85.cell? ⟨aa, 3, none⟩ = some (.int .u64 t196) := (zH ah.out 3).trans rfl; have bL : w85.cell? ⟨aa, 4, none⟩ = some (.int .u64 t197) := (zH ah.out 4).trans rfl; have aX : w85.cell? ⟨aa, 5, none⟩ = some (.int .u64 t198) := (zH ah.out 5).trans rfl; have bi : w85.cell? ⟨aa, 6, none⟩ = some (.int .u64 t199) := (zH ah.out 6).trans rfl; have bz : w85.cell? ⟨aa, 7, none⟩ = some (.int .u64 t200) := (zH ah.out 7).trans rfl; have bI : w85.cell? ⟨aa, 8, none⟩ = some (.int .u64 t201) := (zH ah.out 8).trans rfl; have bj : w85.cell? ⟨aa, 9, none⟩ = some (.int .u64 t202) := (zH ah.out 9).trans rfl; have aP : w85.cell? ⟨aa, 10, none⟩ = some (.int .u64 t203) := (zH ah.out 10).trans rfl; have aR : w85.cell? ⟨aa, 11, none⟩ = some (.int .u64 t204) := (zH ah.out 11).trans rfl; have bK := blk_frozen ah.out 0; have a2 := blk_frozen ah.out 1; have bN := blk_frozen ah.out 2; have bZ := blk_frozen ah.out 3; have cm := blk_frozen ah.out 4; have cc := blk_frozen ah.out 5; have bg := blk_frozen ah.out 6; have bW := blk_frozen ah.out 7; have bk := blk_frozen ah.out 8; have ce := blk_frozen ah.out 9; have aD := blk_frozen ah.out 10; have aE := blk_frozen ah.out 11))
      go_ret
      exact ⟨by first | rfl | (simp [errW_none, errW_some] <;> rfl) | (simp [*, errW_none, errW_some] <;> rfl), by repeat (first | (with_reducible first | exact HB.out | apply zG | apply zE | apply zF | refine zD ?_ ak.out | refine zD ?_ am.out | refine zD ?_ ao.out) | exact HB.out)⟩

end Go.Proofs.Ytehmkffmnaabaaa.PWideOrder
