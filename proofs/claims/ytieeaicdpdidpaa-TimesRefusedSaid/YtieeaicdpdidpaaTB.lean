/-
  octroilaw02's nearer and TimesBack: what they answer. No condition but that words are words.
-/
import Derived.Test.YtieeaicdpdidpaaTA
import Derived.Test.YtieeaicdpdidpaaWLast
import Derived.Deep.RegionHeld3
import Derived.Deep.RegionWith
namespace Go.Proofs.Ytieeaicdpdidpaa.TF
open Go.RowKit Go.Proofs.YtieeaicdpdidpaaW.PrintWords
open WF Go.Proofs.YtieeaicdpdidpaaW.PrintLast
set_option linter.unusedVariables false
set_option linter.unusedSimpArgs false
attribute [local go_sem] run_add64 run_sub64
attribute [local go_sem high] eqW
theorem keepc {W w1 : World} {b o : Nat} {v : Value} (hb : Below W.heap.size W w1) (h : W.cell? ⟨b, o, none⟩ = some v) : w1.cell? ⟨b, o, none⟩ = some v :=
  (hb.cell (p := ⟨b, o, none⟩) (World.block_lt_of_cell? W ⟨b, o, none⟩ h)).trans h
theorem keepf {W w1 : World} {b o : Nat} {v : Value} (hb : Below W.heap.size W w1) (h : W.cell? ⟨b, o, none⟩ = some v) (hf : W.frozen? ⟨b, o, none⟩ = false) : w1.frozen? ⟨b, o, none⟩ = false :=
  (hb.frozen (p := ⟨b, o, none⟩) (World.block_lt_of_cell? W ⟨b, o, none⟩ h)).trans hf
set_option maxHeartbeats 4000000 in
set_option maxRecDepth 100000 in
theorem nearer_w (a0_0 a0_1 a1_0 a1_1 ah al bh bl : Int) (r : Bool) (w : World) (hA : WF.Abs.f a0_0 a0_1 = some (ah, al)) (hB : WF.Abs.f a1_0 a1_1 = some (bh, bl)) (x y z : Bool) (hx : decide (ah < bh) = x) (hy : (ah == bh) = y) (hz : decide (al < bl) = z) (hr : (x || y && z) = r) :
    Calls Try.prog 23 #[.agg #[.int .i64 a0_0, .int .u64 a0_1], .agg #[.int .i64 a1_0, .int .u64 a1_1]] w fun e w' => e = .returned (.bool r) ∧ Below w.heap.size w w' := by
  have HA := fun W => Lib.hid (WF.Abs.calls _ _ _ _ W hA)
  have HB := fun W => Lib.hid (WF.Abs.calls _ _ _ _ W hB)
  clear hA hB
  cases x <;> cases y <;> cases z <;> (obtain rfl := by simpa using hr) <;> clear hr
  all_goals
  · go_enter Try.func23, Try.ntmps23
    go_wp2_with fail
    refine ((HA _).out).mono ?_
    rintro e w1 ⟨rfl, hb1⟩
    obtain ⟨hc1, hf1⟩ := bcell hb1
    go_wp2_with fail
    refine ((HB _).out).mono ?_
    rintro e w2 ⟨rfl, hb2⟩
    obtain ⟨hc2, hf2⟩ := bcell hb2
    go_wp2_with fail
    first | (go_ret; exact ⟨rfl, by repeat (with_reducible first | apply pw_below_drewN | apply below_drew1 | apply below_alloc | exact Below.refl _ _ | (refine below_set ?_ (by first | omega | (simp; omega))) | (refine below_next ?_ (by assumption)))⟩) | (go_quiet (fail); go_wp2_with fail; (go_ret; exact ⟨rfl, by repeat (with_reducible first | apply pw_below_drewN | apply below_drew1 | apply below_alloc | exact Below.refl _ _ | (refine below_set ?_ (by first | omega | (simp; omega))) | (refine below_next ?_ (by assumption)))⟩))
def nearer.f (a0_0 a0_1 a1_0 a1_1 : Int) : Option Bool := if WB a0_0 a0_1 ∧ WB a1_0 a1_1 then some (decide (wabs (wv a0_0 a0_1) < wabs (wv a1_0 a1_1))) else none
theorem nearer.calls (a0_0 a0_1 a1_0 a1_1 : Int) (r : Bool) (w : World) (h : nearer.f a0_0 a0_1 a1_0 a1_1 = some r) :
    Calls Try.prog 23 #[.agg #[.int .i64 a0_0, .int .u64 a0_1], .agg #[.int .i64 a1_0, .int .u64 a1_1]] w fun e w' => e = .returned (.bool r) ∧ Below w.heap.size w w' := by
  unfold nearer.f at h
  split at h
  · rename_i hb
    refine nearer_w _ _ _ _ _ _ _ _ _ w (Abs_f hb.1) (Abs_f hb.2) _ _ _ rfl rfl rfl (Eq.trans ?_ (Option.some.inj h))
    have iA := wabs_in hb.1
    have iB := wabs_in hb.2
    rw [Bool.eq_iff_iff, Bool.or_eq_true, Bool.and_eq_true, decide_eq_true_eq, decide_eq_true_eq, decide_eq_true_eq, beq_iff_eq]
    omega
  · cases h
theorem nearer_f {a0 a1 b0 b1 : Int} (ha : WB a0 a1) (hb : WB b0 b1) : nearer.f a0 a1 b0 b1 = some (decide (wabs (wv a0 a1) < wabs (wv b0 b1))) := if_pos ⟨ha, hb⟩
set_option maxHeartbeats 4000000 in
set_option maxRecDepth 100000 in
theorem TimesBack_w0 (a0_0 a0_1 a1_0 a1_1 : Int) (w : World) (hQ : QuoRem.f a0_0 a0_1 a1_0 a1_1 = some (0, 0, 0, 0, 20)) (hS : WF.Sign.f a1_0 a1_1 = some 0) :
    Calls Try.prog 8 #[.agg #[.int .i64 a0_0, .int .u64 a0_1], .agg #[.int .i64 a1_0, .int .u64 a1_1]] w fun e w' => e = .returned (.bool true) ∧ Below w.heap.size w w' := by
  have HW := fun W => Lib.hid (awake.calls W)
  have HQ := fun W => Lib.hid (QuoRem.calls _ _ _ _ _ _ _ _ _ W hQ)
  have HS := fun W => Lib.hid (WF.Sign.calls _ _ _ W hS)
  clear hQ hS
  go_enter Try.func8, Try.ntmps8
  go_wp2_with fail
  refine ((HW _).out).mono ?_
  rintro e w1 ⟨rfl, hb1⟩
  obtain ⟨hc1, hf1⟩ := bcell hb1
  have s1_a : w.heap.size < w1.heap.size := (by have := hb1.size; (try simp at this); omega)
  have s1_b : w.heap.size + 1 < w1.heap.size := (by have := hb1.size; (try simp at this); omega)
  have c1_a_0 : w1.cell? ⟨w.heap.size, 0, none⟩ = some (.int .i64 a0_0) := (by rw [hc1 _ _ (by first | omega | (simp; done) | (simp; omega))]; simp [go_sem])
  have c1_a_1 : w1.cell? ⟨w.heap.size, 1, none⟩ = some (.int .u64 a0_1) := (by rw [hc1 _ _ (by first | omega | (simp; done) | (simp; omega))]; simp [go_sem])
  have c1_b_0 : w1.cell? ⟨w.heap.size + 1, 0, none⟩ = some (.int .i64 a1_0) := (by rw [hc1 _ _ (by first | omega | (simp; done) | (simp; omega))]; simp [go_sem])
  have c1_b_1 : w1.cell? ⟨w.heap.size + 1, 1, none⟩ = some (.int .u64 a1_1) := (by rw [hc1 _ _ (by first | omega | (simp; done) | (simp; omega))]; simp [go_sem])
  go_wp2_with fail
  refine ((HQ _).out).mono ?_
  rintro e w2 ⟨rfl, hb2⟩
  obtain ⟨hc2, hf2⟩ := bcell hb2
  have s2_a : w.heap.size < w2.heap.size := (by have := hb2.size; (try simp at this); omega)
  have s2_b : w.heap.size + 1 < w2.heap.size := (by have := hb2.size; (try simp at this); omega)
  have c2_a_0 : w2.cell? ⟨w.heap.size, 0, none⟩ = some (.int .i64 a0_0) := (by rw [hc2 _ _ (by first | omega | (simp; done) | (simp; omega))]; simp [go_sem, c1_a_0, s1_a, s1_b])
  have c2_a_1 : w2.cell? ⟨w.heap.size, 1, none⟩ = some (.int .u64 a0_1) := (by rw [hc2 _ _ (by first | omega | (simp; done) | (simp; omega))]; simp [go_sem, c1_a_1, s1_a, s1_b])
  have c2_b_0 : w2.cell? ⟨w.heap.size + 1, 0, none⟩ = some (.int .i64 a1_0) := (by rw [hc2 _ _ (by first | omega | (simp; done) | (simp; omega))]; simp [go_sem, c1_b_0, s1_a, s1_b])
  have c2_b_1 : w2.cell? ⟨w.heap.size + 1, 1, none⟩ = some (.int .u64 a1_1) := (by rw [hc2 _ _ (by first | omega | (simp; done) | (simp; omega))]; simp [go_sem, c1_b_1, s1_a, s1_b])
  go_wp2_with fail
  refine start_ (n := 25) (S := fun w' => w'.cell? ⟨w.heap.size, 0, none⟩ = some (.int .i64 a0_0) ∧ w'.cell? ⟨w.heap.size, 1, none⟩ = some (.int .u64 a0_1) ∧ w'.cell? ⟨w.heap.size + 1, 0, none⟩ = some (.int .i64 a1_0) ∧ w'.cell? ⟨w.heap.size + 1, 1, none⟩ = some (.int .u64 a1_1)) (ds := []) #[false, false, false, false, false, false, false, false, false, false, false, false, false, false, false, false, false, false, false, false, false, false, false, false, false] (by kernel_rfl) rfl rfl ⟨(by simp [go_sem, c2_a_0, c2_a_1, c2_b_0, c2_b_1, s2_a, s2_b]), (by simp [go_sem, c2_a_0, c2_a_1, c2_b_0, c2_b_1, s2_a, s2_b]), (by simp [go_sem, c2_a_0, c2_a_1, c2_b_0, c2_b_1, s2_a, s2_b]), (by simp [go_sem, c2_a_0, c2_a_1, c2_b_0, c2_b_1, s2_a, s2_b])⟩ (fun hHeld => ?_)
  refine pure_ (i := 0) (N := some 23) (v := ?_) (a' := ?_) #[true, false, false, false, false, false, false, false, false, false, false, false, false, false, false, false, false, false, false, false, false, false, false, false, false] rfl rfl (by kernel_rfl) (fun _ _ _ h => h) (Or.inl ⟨by rfl, ?_⟩) ?_ ?_
  rotate_left
  · intro w'
    go_simp
    with_reducible rfl
  rotate_left
  · simp only [Act.put, List.setIfInBounds_toArray, List.set_cons_zero, List.set_cons_succ, i64_w, i32_w]
    rfl
  refine pure_ (i := 1) (N := some 24) (v := ?_) (a' := ?_) #[true, true, false, false, false, false, false, false, false, false, false, false, false, false, false, false, false, false, false, false, false, false, false, false, false] rfl rfl (by kernel_rfl) (fun _ _ _ h => h) (Or.inl ⟨by rfl, ?_⟩) ?_ ?_
  rotate_left
  · intro w'
    go_simp
    with_reducible rfl
  rotate_left
  · simp only [Act.put, List.setIfInBounds_toArray, List.set_cons_zero, List.set_cons_succ, i64_w, i32_w]
    rfl
  refine take_ (i := 2) (N := some 25) (v := ?_) (a' := ?_) #[true, true, true, false, false, false, false, false, false, false, false, false, false, false, false, false, false, false, false, false, false, false, false, false, false] rfl rfl (by kernel_rfl) (fun _ _ _ h => h) (Or.inl ⟨by rfl, ?_⟩) hHeld ?_ ?_
  rotate_left
  · rintro w' ⟨s0, s1, s2, s3⟩
    go_simp
    with_reducible rfl
  rotate_left
  · simp only [Act.put, List.setIfInBounds_toArray, List.set_cons_zero, List.set_cons_succ, i64_w, i32_w]
    rfl
  refine one_ (i := 3) (N := some 26) #[true, true, true, true, false, false, false, false, false, false, false, false, false, false, false, false, false, false, false, false, false, false, false, false, false] rfl rfl (by kernel_rfl) (by decide) (fun K hK => ?_)
  refine goes_ Try.func22 (by kernel_rfl) rfl #[.agg #[.int .i64 a1_0, .int .u64 a1_1]] (by rfl) rfl rfl (by simp only [List.map_toArray, List.map_cons, List.map_nil]; rfl) ?_
  with_reducible refine ((HS _).out).mono ?_
  rintro e wr ⟨rfl, hbr⟩
  refine ⟨_, rfl, ?_⟩
  obtain ⟨hh0, hh1, hh2, hh3⟩ := hHeld
  refine hK.out _ _ ⟨keepc hbr (by assumption), keepc hbr (by assumption), keepc hbr (by assumption), keepc hbr (by assumption)⟩ (fun hHeld => ?_)
  clear hK K
  refine norm_ (a' := ?_) ?_ ?_
  rotate_left
  · show Act.put _ (some 26) _ = _
    simp only [Act.put, List.setIfInBounds_toArray, List.set_cons_zero, List.set_cons_succ, i64_w, i32_w]
    rfl
  refine pure_ (i := 4) (N := some 27) (v := ?_) (a' := ?_) #[true, true, true, true, true, false, false, false, false, false, false, false, false, false, false, false, false, false, false, false, false, false, false, false, false] rfl rfl (by kernel_rfl) (fun _ _ _ h => h) (Or.inl ⟨by rfl, ?_⟩) ?_ ?_
  rotate_left
  · intro w'
    go_simp
    with_reducible rfl
  rotate_left
  · simp only [Act.put, List.setIfInBounds_toArray, List.set_cons_zero, List.set_cons_succ, i64_w, i32_w]
    rfl
  refine pure_ (i := 5) (N := some 28) (v := ?_) (a' := ?_) #[true, true, true, true, true, true, false, false, false, false, false, false, false, false, false, false, false, false, false, false, false, false, false, false, false] rfl rfl (by kernel_rfl) (fun _ _ _ h => h) (Or.inl ⟨by rfl, ?_⟩) ?_ ?_
  rotate_left
  · intro w'
    go_simp
    with_reducible rfl
  rotate_left
  · simp only [Act.put, List.setIfInBounds_toArray, List.set_cons_zero, List.set_cons_succ, i64_w, i32_w]
    rfl
  refine pure_ (i := 6) (N := some 29) (v := ?_) (a' := ?_) #[true, true, true, true, true, true, true, false, false, false, false, false, false, false, false, false, false, false, false, false, false, false, false, false, false] rfl rfl (by kernel_rfl) (fun _ _ _ h => h) (Or.inl ⟨by rfl, ?_⟩) ?_ ?_
  rotate_left
  · intro w'
    go_simp
    with_reducible rfl
  rotate_left
  · simp only [Act.put, List.setIfInBounds_toArray, List.set_cons_zero, List.set_cons_succ, i64_w, i32_w]
    rfl
  refine pure_ (i := 7) (N := some 30) (v := ?_) (a' := ?_) #[true, true, true, true, true, true, true, true, false, false, false, false, false, false, false, false, false, false, false, false, false, false, false, false, false] rfl rfl (by kernel_rfl) (fun _ _ _ h => h) (Or.inl ⟨by rfl, ?_⟩) ?_ ?_
  rotate_left
  · intro w'
    go_simp
    with_reducible rfl
  rotate_left
  · simp only [Act.put, List.setIfInBounds_toArray, List.set_cons_zero, List.set_cons_succ, i64_w, i32_w]
    rfl
  refine pure_ (i := 8) (N := some 31) (v := ?_) (a' := ?_) #[true, true, true, true, true, true, true, true, true, false, false, false, false, false, false, false, false, false, false, false, false, false, false, false, false] rfl rfl (by kernel_rfl) (fun _ _ _ h => h) (Or.inl ⟨by rfl, ?_⟩) ?_ ?_
  rotate_left
  · intro w'
    go_simp
    with_reducible rfl
  rotate_left
  · simp only [Act.put, List.setIfInBounds_toArray, List.set_cons_zero, List.set_cons_succ, i64_w, i32_w]
    rfl
  refine pure_ (i := 9) (N := some 32) (v := ?_) (a' := ?_) #[true, true, true, true, true, true, true, true, true, true, false, false, false, false, false, false, false, false, false, false, false, false, false, false, false] rfl rfl (by kernel_rfl) (fun _ _ _ h => h) (Or.inl ⟨by rfl, ?_⟩) ?_ ?_
  rotate_left
  · intro w'
    go_simp
    with_reducible rfl
  rotate_left
  · simp only [Act.put, List.setIfInBounds_toArray, List.set_cons_zero, List.set_cons_succ, i64_w, i32_w]
    rfl
  refine pure_ (i := 10) (N := some 33) (v := undef) (a' := ?_) #[true, true, true, true, true, true, true, true, true, true, true, false, false, false, false, false, false, false, false, false, false, false, false, false, false] rfl rfl (by kernel_rfl) (fun _ _ _ h => h) (Or.inr ⟨by rfl, rfl⟩) ?_ ?_
  rotate_left
  · simp only [Act.put, List.setIfInBounds_toArray, List.set_cons_zero, List.set_cons_succ, i64_w, i32_w]
    rfl
  refine pure_ (i := 11) (N := some 34) (v := undef) (a' := ?_) #[true, true, true, true, true, true, true, true, true, true, true, true, false, false, false, false, false, false, false, false, false, false, false, false, false] rfl rfl (by kernel_rfl) (fun _ _ _ h => h) (Or.inr ⟨by rfl, rfl⟩) ?_ ?_
  rotate_left
  · simp only [Act.put, List.setIfInBounds_toArray, List.set_cons_zero, List.set_cons_succ, i64_w, i32_w]
    rfl
  refine pure_ (i := 12) (N := some 35) (v := undef) (a' := ?_) #[true, true, true, true, true, true, true, true, true, true, true, true, true, false, false, false, false, false, false, false, false, false, false, false, false] rfl rfl (by kernel_rfl) (fun _ _ _ h => h) (Or.inr ⟨by rfl, rfl⟩) ?_ ?_
  rotate_left
  · simp only [Act.put, List.setIfInBounds_toArray, List.set_cons_zero, List.set_cons_succ, i64_w, i32_w]
    rfl
  refine pure_ (i := 13) (N := some 36) (v := undef) (a' := ?_) #[true, true, true, true, true, true, true, true, true, true, true, true, true, true, false, false, false, false, false, false, false, false, false, false, false] rfl rfl (by kernel_rfl) (fun _ _ _ h => h) (Or.inr ⟨by rfl, rfl⟩) ?_ ?_
  rotate_left
  · simp only [Act.put, List.setIfInBounds_toArray, List.set_cons_zero, List.set_cons_succ, i64_w, i32_w]
    rfl
  refine pure_ (i := 14) (N := some 37) (v := undef) (a' := ?_) #[true, true, true, true, true, true, true, true, true, true, true, true, true, true, true, false, false, false, false, false, false, false, false, false, false] rfl rfl (by kernel_rfl) (fun _ _ _ h => h) (Or.inr ⟨by rfl, rfl⟩) ?_ ?_
  rotate_left
  · simp only [Act.put, List.setIfInBounds_toArray, List.set_cons_zero, List.set_cons_succ, i64_w, i32_w]
    rfl
  refine pure_ (i := 15) (N := some 38) (v := undef) (a' := ?_) #[true, true, true, true, true, true, true, true, true, true, true, true, true, true, true, true, false, false, false, false, false, false, false, false, false] rfl rfl (by kernel_rfl) (fun _ _ _ h => h) (Or.inr ⟨by rfl, rfl⟩) ?_ ?_
  rotate_left
  · simp only [Act.put, List.setIfInBounds_toArray, List.set_cons_zero, List.set_cons_succ, i64_w, i32_w]
    rfl
  refine pure_ (i := 16) (N := some 39) (v := undef) (a' := ?_) #[true, true, true, true, true, true, true, true, true, true, true, true, true, true, true, true, true, false, false, false, false, false, false, false, false] rfl rfl (by kernel_rfl) (fun _ _ _ h => h) (Or.inr ⟨by rfl, rfl⟩) ?_ ?_
  rotate_left
  · simp only [Act.put, List.setIfInBounds_toArray, List.set_cons_zero, List.set_cons_succ, i64_w, i32_w]
    rfl
  refine pure_ (i := 17) (N := some 40) (v := undef) (a' := ?_) #[true, true, true, true, true, true, true, true, true, true, true, true, true, true, true, true, true, true, false, false, false, false, false, false, false] rfl rfl (by kernel_rfl) (fun _ _ _ h => h) (Or.inr ⟨by rfl, rfl⟩) ?_ ?_
  rotate_left
  · simp only [Act.put, List.setIfInBounds_toArray, List.set_cons_zero, List.set_cons_succ, i64_w, i32_w]
    rfl
  refine pure_ (i := 18) (N := some 41) (v := undef) (a' := ?_) #[true, true, true, true, true, true, true, true, true, true, true, true, true, true, true, true, true, true, true, false, false, false, false, false, false] rfl rfl (by kernel_rfl) (fun _ _ _ h => h) (Or.inr ⟨by rfl, rfl⟩) ?_ ?_
  rotate_left
  · simp only [Act.put, List.setIfInBounds_toArray, List.set_cons_zero, List.set_cons_succ, i64_w, i32_w]
    rfl
  refine pure_ (i := 19) (N := some 42) (v := undef) (a' := ?_) #[true, true, true, true, true, true, true, true, true, true, true, true, true, true, true, true, true, true, true, true, false, false, false, false, false] rfl rfl (by kernel_rfl) (fun _ _ _ h => h) (Or.inr ⟨by rfl, rfl⟩) ?_ ?_
  rotate_left
  · simp only [Act.put, List.setIfInBounds_toArray, List.set_cons_zero, List.set_cons_succ, i64_w, i32_w]
    rfl
  refine pure_ (i := 20) (N := some 43) (v := undef) (a' := ?_) #[true, true, true, true, true, true, true, true, true, true, true, true, true, true, true, true, true, true, true, true, true, false, false, false, false] rfl rfl (by kernel_rfl) (fun _ _ _ h => h) (Or.inr ⟨by rfl, rfl⟩) ?_ ?_
  rotate_left
  · simp only [Act.put, List.setIfInBounds_toArray, List.set_cons_zero, List.set_cons_succ, i64_w, i32_w]
    rfl
  refine pure_ (i := 21) (N := some 44) (v := undef) (a' := ?_) #[true, true, true, true, true, true, true, true, true, true, true, true, true, true, true, true, true, true, true, true, true, true, false, false, false] rfl rfl (by kernel_rfl) (fun _ _ _ h => h) (Or.inr ⟨by rfl, rfl⟩) ?_ ?_
  rotate_left
  · simp only [Act.put, List.setIfInBounds_toArray, List.set_cons_zero, List.set_cons_succ, i64_w, i32_w]
    rfl
  refine pure_ (i := 22) (N := some 45) (v := ?_) (a' := ?_) #[true, true, true, true, true, true, true, true, true, true, true, true, true, true, true, true, true, true, true, true, true, true, true, false, false] rfl rfl (by kernel_rfl) (fun _ _ _ h => h) (Or.inl ⟨by rfl, ?_⟩) ?_ ?_
  rotate_left
  · intro w'
    go_simp
    with_reducible rfl
  rotate_left
  · simp only [Act.put, List.setIfInBounds_toArray, List.set_cons_zero, List.set_cons_succ, i64_w, i32_w]
    rfl
  refine pure_ (i := 23) (N := some 46) (v := ?_) (a' := ?_) #[true, true, true, true, true, true, true, true, true, true, true, true, true, true, true, true, true, true, true, true, true, true, true, true, false] rfl rfl (by kernel_rfl) (fun _ _ _ h => h) (Or.inl ⟨by rfl, ?_⟩) ?_ ?_
  rotate_left
  · intro w'
    go_simp
    with_reducible rfl
  rotate_left
  · simp only [Act.put, List.setIfInBounds_toArray, List.set_cons_zero, List.set_cons_succ, i64_w, i32_w]
    rfl
  refine pure_ (i := 24) (N := some 4) (v := ?_) (a' := ?_) #[true, true, true, true, true, true, true, true, true, true, true, true, true, true, true, true, true, true, true, true, true, true, true, true, true] rfl rfl (by kernel_rfl) (fun _ _ _ h => h) (Or.inl ⟨by rfl, ?_⟩) ?_ ?_
  rotate_left
  · intro w'
    go_simp
    with_reducible rfl
  rotate_left
  · simp only [Act.put, List.setIfInBounds_toArray, List.set_cons_zero, List.set_cons_succ, i64_w, i32_w]
    rfl
  refine done_ (by kernel_rfl) ?_
  all_goals go_wp2_with fail
  all_goals (go_ret; exact ⟨rfl, by repeat (with_reducible first | apply pw_below_drewN | apply below_drew1 | apply below_alloc | exact Below.refl _ _ | (refine below_set ?_ (by first | omega | (simp; omega))) | (refine below_next ?_ (by assumption)))⟩)
set_option maxHeartbeats 4000000 in
set_option maxRecDepth 100000 in
theorem TimesBack_w1 (w : World) :
    Calls Try.prog 8 #[.agg #[.int .i64 (-9223372036854775808), .int .u64 0], .agg #[.int .i64 (-1), .int .u64 18446744073709551615]] w fun e w' => e = .returned (.bool true) ∧ Below w.heap.size w w' := by
  have HW := fun W => Lib.hid (awake.calls W)
  have HQ := fun W => Lib.hid (QuoRem.calls (-9223372036854775808) 0 (-1) 18446744073709551615 0 0 0 0 10 W (by decide))
  have HS := fun W => Lib.hid (WF.Sign.calls (-1) 18446744073709551615 (-1) W (by decide))
  have HO := fun W => Lib.hid (WF.Of.calls (-1) (-1) 18446744073709551615 W (by decide))
  go_enter Try.func8, Try.ntmps8
  go_wp2_with fail
  refine ((HW _).out).mono ?_
  rintro e w1 ⟨rfl, hb1⟩
  obtain ⟨hc1, hf1⟩ := bcell hb1
  have s1_a : w.heap.size < w1.heap.size := (by have := hb1.size; (try simp at this); omega)
  have s1_b : w.heap.size + 1 < w1.heap.size := (by have := hb1.size; (try simp at this); omega)
  have c1_a_0 : w1.cell? ⟨w.heap.size, 0, none⟩ = some (.int .i64 (-9223372036854775808)) := (by rw [hc1 _ _ (by first | omega | (simp; done) | (simp; omega))]; simp [go_sem])
  have c1_a_1 : w1.cell? ⟨w.heap.size, 1, none⟩ = some (.int .u64 0) := (by rw [hc1 _ _ (by first | omega | (simp; done) | (simp; omega))]; simp [go_sem])
  have c1_b_0 : w1.cell? ⟨w.heap.size + 1, 0, none⟩ = some (.int .i64 (-1)) := (by rw [hc1 _ _ (by first | omega | (simp; done) | (simp; omega))]; simp [go_sem])
  have c1_b_1 : w1.cell? ⟨w.heap.size + 1, 1, none⟩ = some (.int .u64 18446744073709551615) := (by rw [hc1 _ _ (by first | omega | (simp; done) | (simp; omega))]; simp [go_sem])
  go_wp2_with fail
  refine ((HQ _).out).mono ?_
  rintro e w2 ⟨rfl, hb2⟩
  obtain ⟨hc2, hf2⟩ := bcell hb2
  have s2_a : w.heap.size < w2.heap.size := (by have := hb2.size; (try simp at this); omega)
  have s2_b : w.heap.size + 1 < w2.heap.size := (by have := hb2.size; (try simp at this); omega)
  have c2_a_0 : w2.cell? ⟨w.heap.size, 0, none⟩ = some (.int .i64 (-9223372036854775808)) := (by rw [hc2 _ _ (by first | omega | (simp; done) | (simp; omega))]; simp [go_sem, c1_a_0, s1_a, s1_b])
  have c2_a_1 : w2.cell? ⟨w.heap.size, 1, none⟩ = some (.int .u64 0) := (by rw [hc2 _ _ (by first | omega | (simp; done) | (simp; omega))]; simp [go_sem, c1_a_1, s1_a, s1_b])
  have c2_b_0 : w2.cell? ⟨w.heap.size + 1, 0, none⟩ = some (.int .i64 (-1)) := (by rw [hc2 _ _ (by first | omega | (simp; done) | (simp; omega))]; simp [go_sem, c1_b_0, s1_a, s1_b])
  have c2_b_1 : w2.cell? ⟨w.heap.size + 1, 1, none⟩ = some (.int .u64 18446744073709551615) := (by rw [hc2 _ _ (by first | omega | (simp; done) | (simp; omega))]; simp [go_sem, c1_b_1, s1_a, s1_b])
  go_wp2_with fail
  refine start_ (n := 25) (S := fun w' => w'.cell? ⟨w.heap.size, 0, none⟩ = some (.int .i64 (-9223372036854775808)) ∧ w'.cell? ⟨w.heap.size, 1, none⟩ = some (.int .u64 0) ∧ w'.cell? ⟨w.heap.size + 1, 0, none⟩ = some (.int .i64 (-1)) ∧ w'.cell? ⟨w.heap.size + 1, 1, none⟩ = some (.int .u64 18446744073709551615)) (ds := []) #[false, false, false, false, false, false, false, false, false, false, false, false, false, false, false, false, false, false, false, false, false, false, false, false, false] (by kernel_rfl) rfl rfl ⟨(by simp [go_sem, c2_a_0, c2_a_1, c2_b_0, c2_b_1, s2_a, s2_b]), (by simp [go_sem, c2_a_0, c2_a_1, c2_b_0, c2_b_1, s2_a, s2_b]), (by simp [go_sem, c2_a_0, c2_a_1, c2_b_0, c2_b_1, s2_a, s2_b]), (by simp [go_sem, c2_a_0, c2_a_1, c2_b_0, c2_b_1, s2_a, s2_b])⟩ (fun hHeld => ?_)
  refine pure_ (i := 0) (N := some 23) (v := ?_) (a' := ?_) #[true, false, false, false, false, false, false, false, false, false, false, false, false, false, false, false, false, false, false, false, false, false, false, false, false] rfl rfl (by kernel_rfl) (fun _ _ _ h => h) (Or.inl ⟨by rfl, ?_⟩) ?_ ?_
  rotate_left
  · intro w'
    go_simp
    with_reducible rfl
  rotate_left
  · simp only [Act.put, List.setIfInBounds_toArray, List.set_cons_zero, List.set_cons_succ, i64_w, i32_w]
    rfl
  refine pure_ (i := 1) (N := some 24) (v := ?_) (a' := ?_) #[true, true, false, false, false, false, false, false, false, false, false, false, false, false, false, false, false, false, false, false, false, false, false, false, false] rfl rfl (by kernel_rfl) (fun _ _ _ h => h) (Or.inl ⟨by rfl, ?_⟩) ?_ ?_
  rotate_left
  · intro w'
    go_simp
    with_reducible rfl
  rotate_left
  · simp only [Act.put, List.setIfInBounds_toArray, List.set_cons_zero, List.set_cons_succ, i64_w, i32_w]
    rfl
  refine take_ (i := 2) (N := some 25) (v := ?_) (a' := ?_) #[true, true, true, false, false, false, false, false, false, false, false, false, false, false, false, false, false, false, false, false, false, false, false, false, false] rfl rfl (by kernel_rfl) (fun _ _ _ h => h) (Or.inl ⟨by rfl, ?_⟩) hHeld ?_ ?_
  rotate_left
  · rintro w' ⟨s0, s1, s2, s3⟩
    go_simp
    with_reducible rfl
  rotate_left
  · simp only [Act.put, List.setIfInBounds_toArray, List.set_cons_zero, List.set_cons_succ, i64_w, i32_w]
    rfl
  refine one_ (i := 3) (N := some 26) #[true, true, true, true, false, false, false, false, false, false, false, false, false, false, false, false, false, false, false, false, false, false, false, false, false] rfl rfl (by kernel_rfl) (by decide) (fun K hK => ?_)
  refine goes_ Try.func22 (by kernel_rfl) rfl #[.agg #[.int .i64 (-1), .int .u64 18446744073709551615]] (by rfl) rfl rfl (by simp only [List.map_toArray, List.map_cons, List.map_nil]; rfl) ?_
  with_reducible refine ((HS _).out).mono ?_
  rintro e wr_0 ⟨rfl, hbr_0⟩
  refine ⟨_, rfl, ?_⟩
  obtain ⟨hh0, hh1, hh2, hh3⟩ := hHeld
  refine hK.out _ _ ⟨keepc hbr_0 (by assumption), keepc hbr_0 (by assumption), keepc hbr_0 (by assumption), keepc hbr_0 (by assumption)⟩ (fun hHeld => ?_)
  clear hK K
  refine norm_ (a' := ?_) ?_ ?_
  rotate_left
  · show Act.put _ (some 26) _ = _
    simp only [Act.put, List.setIfInBounds_toArray, List.set_cons_zero, List.set_cons_succ, i64_w, i32_w]
    rfl
  refine pure_ (i := 4) (N := some 27) (v := ?_) (a' := ?_) #[true, true, true, true, true, false, false, false, false, false, false, false, false, false, false, false, false, false, false, false, false, false, false, false, false] rfl rfl (by kernel_rfl) (fun _ _ _ h => h) (Or.inl ⟨by rfl, ?_⟩) ?_ ?_
  rotate_left
  · intro w'
    go_simp
    with_reducible rfl
  rotate_left
  · simp only [Act.put, List.setIfInBounds_toArray, List.set_cons_zero, List.set_cons_succ, i64_w, i32_w]
    rfl
  refine pure_ (i := 5) (N := some 28) (v := ?_) (a' := ?_) #[true, true, true, true, true, true, false, false, false, false, false, false, false, false, false, false, false, false, false, false, false, false, false, false, false] rfl rfl (by kernel_rfl) (fun _ _ _ h => h) (Or.inl ⟨by rfl, ?_⟩) ?_ ?_
  rotate_left
  · intro w'
    go_simp
    with_reducible rfl
  rotate_left
  · simp only [Act.put, List.setIfInBounds_toArray, List.set_cons_zero, List.set_cons_succ, i64_w, i32_w]
    rfl
  refine pure_ (i := 6) (N := some 29) (v := ?_) (a' := ?_) #[true, true, true, true, true, true, true, false, false, false, false, false, false, false, false, false, false, false, false, false, false, false, false, false, false] rfl rfl (by kernel_rfl) (fun _ _ _ h => h) (Or.inl ⟨by rfl, ?_⟩) ?_ ?_
  rotate_left
  · intro w'
    go_simp
    with_reducible rfl
  rotate_left
  · simp only [Act.put, List.setIfInBounds_toArray, List.set_cons_zero, List.set_cons_succ, i64_w, i32_w]
    rfl
  refine pure_ (i := 7) (N := some 30) (v := ?_) (a' := ?_) #[true, true, true, true, true, true, true, true, false, false, false, false, false, false, false, false, false, false, false, false, false, false, false, false, false] rfl rfl (by kernel_rfl) (fun _ _ _ h => h) (Or.inl ⟨by rfl, ?_⟩) ?_ ?_
  rotate_left
  · intro w'
    go_simp
    with_reducible rfl
  rotate_left
  · simp only [Act.put, List.setIfInBounds_toArray, List.set_cons_zero, List.set_cons_succ, i64_w, i32_w]
    rfl
  refine pure_ (i := 8) (N := some 31) (v := ?_) (a' := ?_) #[true, true, true, true, true, true, true, true, true, false, false, false, false, false, false, false, false, false, false, false, false, false, false, false, false] rfl rfl (by kernel_rfl) (fun _ _ _ h => h) (Or.inl ⟨by rfl, ?_⟩) ?_ ?_
  rotate_left
  · intro w'
    go_simp
    with_reducible rfl
  rotate_left
  · simp only [Act.put, List.setIfInBounds_toArray, List.set_cons_zero, List.set_cons_succ, i64_w, i32_w]
    rfl
  refine pure_ (i := 9) (N := some 32) (v := ?_) (a' := ?_) #[true, true, true, true, true, true, true, true, true, true, false, false, false, false, false, false, false, false, false, false, false, false, false, false, false] rfl rfl (by kernel_rfl) (fun _ _ _ h => h) (Or.inl ⟨by rfl, ?_⟩) ?_ ?_
  rotate_left
  · intro w'
    go_simp
    with_reducible rfl
  rotate_left
  · simp only [Act.put, List.setIfInBounds_toArray, List.set_cons_zero, List.set_cons_succ, i64_w, i32_w]
    rfl
  refine pure_ (i := 10) (N := some 33) (v := ?_) (a' := ?_) #[true, true, true, true, true, true, true, true, true, true, true, false, false, false, false, false, false, false, false, false, false, false, false, false, false] rfl rfl (by kernel_rfl) (fun _ _ _ h => h) (Or.inl ⟨by rfl, ?_⟩) ?_ ?_
  rotate_left
  · intro w'
    go_simp
    with_reducible rfl
  rotate_left
  · simp only [Act.put, List.setIfInBounds_toArray, List.set_cons_zero, List.set_cons_succ, i64_w, i32_w]
    rfl
  refine pure_ (i := 11) (N := some 34) (v := ?_) (a' := ?_) #[true, true, true, true, true, true, true, true, true, true, true, true, false, false, false, false, false, false, false, false, false, false, false, false, false] rfl rfl (by kernel_rfl) (fun _ _ _ h => h) (Or.inl ⟨by rfl, ?_⟩) ?_ ?_
  rotate_left
  · intro w'
    go_simp
    with_reducible rfl
  rotate_left
  · simp only [Act.put, List.setIfInBounds_toArray, List.set_cons_zero, List.set_cons_succ, i64_w, i32_w]
    rfl
  refine pure_ (i := 12) (N := some 35) (v := ?_) (a' := ?_) #[true, true, true, true, true, true, true, true, true, true, true, true, true, false, false, false, false, false, false, false, false, false, false, false, false] rfl rfl (by kernel_rfl) (fun _ _ _ h => h) (Or.inl ⟨by rfl, ?_⟩) ?_ ?_
  rotate_left
  · intro w'
    go_simp
    with_reducible rfl
  rotate_left
  · simp only [Act.put, List.setIfInBounds_toArray, List.set_cons_zero, List.set_cons_succ, i64_w, i32_w]
    rfl
  refine pure_ (i := 14) (N := some 37) (v := ?_) (a' := ?_) #[true, true, true, true, true, true, true, true, true, true, true, true, true, false, true, false, false, false, false, false, false, false, false, false, false] rfl rfl (by kernel_rfl) (fun _ _ _ h => h) (Or.inl ⟨by rfl, ?_⟩) ?_ ?_
  rotate_left
  · intro w'
    go_simp
    with_reducible rfl
  rotate_left
  · simp only [Act.put, List.setIfInBounds_toArray, List.set_cons_zero, List.set_cons_succ, i64_w, i32_w]
    rfl
  refine take_ (i := 13) (N := some 36) (v := ?_) (a' := ?_) #[true, true, true, true, true, true, true, true, true, true, true, true, true, true, true, false, false, false, false, false, false, false, false, false, false] rfl rfl (by kernel_rfl) (fun _ _ _ h => h) (Or.inl ⟨by rfl, ?_⟩) hHeld ?_ ?_
  rotate_left
  · rintro w' ⟨s0, s1, s2, s3⟩
    go_simp
    with_reducible rfl
  rotate_left
  · simp only [Act.put, List.setIfInBounds_toArray, List.set_cons_zero, List.set_cons_succ, i64_w, i32_w]
    rfl
  refine pure_ (i := 15) (N := some 38) (v := ?_) (a' := ?_) #[true, true, true, true, true, true, true, true, true, true, true, true, true, true, true, true, false, false, false, false, false, false, false, false, false] rfl rfl (by kernel_rfl) (fun _ _ _ h => h) (Or.inl ⟨by rfl, ?_⟩) ?_ ?_
  rotate_left
  · intro w'
    go_simp
    with_reducible rfl
  rotate_left
  · simp only [Act.put, List.setIfInBounds_toArray, List.set_cons_zero, List.set_cons_succ, i64_w, i32_w]
    rfl
  refine pure_ (i := 16) (N := some 39) (v := ?_) (a' := ?_) #[true, true, true, true, true, true, true, true, true, true, true, true, true, true, true, true, true, false, false, false, false, false, false, false, false] rfl rfl (by kernel_rfl) (fun _ _ _ h => h) (Or.inl ⟨by rfl, ?_⟩) ?_ ?_
  rotate_left
  · intro w'
    go_simp
    with_reducible rfl
  rotate_left
  · simp only [Act.put, List.setIfInBounds_toArray, List.set_cons_zero, List.set_cons_succ, i64_w, i32_w]
    rfl
  refine pure_ (i := 17) (N := some 40) (v := ?_) (a' := ?_) #[true, true, true, true, true, true, true, true, true, true, true, true, true, true, true, true, true, true, false, false, false, false, false, false, false] rfl rfl (by kernel_rfl) (fun _ _ _ h => h) (Or.inl ⟨by rfl, ?_⟩) ?_ ?_
  rotate_left
  · intro w'
    go_simp
    with_reducible rfl
  rotate_left
  · simp only [Act.put, List.setIfInBounds_toArray, List.set_cons_zero, List.set_cons_succ, i64_w, i32_w]
    rfl
  refine take_ (i := 18) (N := some 41) (v := ?_) (a' := ?_) #[true, true, true, true, true, true, true, true, true, true, true, true, true, true, true, true, true, true, true, false, false, false, false, false, false] rfl rfl (by kernel_rfl) (fun _ _ _ h => h) (Or.inl ⟨by rfl, ?_⟩) hHeld ?_ ?_
  rotate_left
  · rintro w' ⟨s0, s1, s2, s3⟩
    go_simp
    with_reducible rfl
  rotate_left
  · simp only [Act.put, List.setIfInBounds_toArray, List.set_cons_zero, List.set_cons_succ, i64_w, i32_w]
    rfl
  refine one_ (i := 19) (N := some 42) #[true, true, true, true, true, true, true, true, true, true, true, true, true, true, true, true, true, true, true, true, false, false, false, false, false] rfl rfl (by kernel_rfl) (by decide) (fun K hK => ?_)
  refine goes_ Try.func20 (by kernel_rfl) rfl #[.int .i64 (-1)] (by rfl) rfl rfl (by simp only [List.map_toArray, List.map_cons, List.map_nil]; rfl) ?_
  with_reducible refine ((HO _).out).mono ?_
  rintro e wr ⟨rfl, hbr⟩
  refine ⟨_, rfl, ?_⟩
  obtain ⟨hh0, hh1, hh2, hh3⟩ := hHeld
  refine hK.out _ _ ⟨keepc hbr (by assumption), keepc hbr (by assumption), keepc hbr (by assumption), keepc hbr (by assumption)⟩ (fun hHeld => ?_)
  clear hK K
  refine norm_ (a' := ?_) ?_ ?_
  rotate_left
  · show Act.put _ (some 42) _ = _
    simp only [Act.put, List.setIfInBounds_toArray, List.set_cons_zero, List.set_cons_succ, i64_w, i32_w]
    rfl
  refine pure_ (i := 20) (N := some 43) (v := ?_) (a' := ?_) #[true, true, true, true, true, true, true, true, true, true, true, true, true, true, true, true, true, true, true, true, true, false, false, false, false] rfl rfl (by kernel_rfl) (fun _ _ _ h => h) (Or.inl ⟨by rfl, ?_⟩) ?_ ?_
  rotate_left
  · intro w'
    go_simp
    with_reducible rfl
  rotate_left
  · simp only [Act.put, List.setIfInBounds_toArray, List.set_cons_zero, List.set_cons_succ, i64_w, i32_w]
    rfl
  refine pure_ (i := 21) (N := some 44) (v := ?_) (a' := ?_) #[true, true, true, true, true, true, true, true, true, true, true, true, true, true, true, true, true, true, true, true, true, true, false, false, false] rfl rfl (by kernel_rfl) (fun _ _ _ h => h) (Or.inl ⟨by rfl, ?_⟩) ?_ ?_
  rotate_left
  · intro w'
    go_simp
    with_reducible rfl
  rotate_left
  · simp only [Act.put, List.setIfInBounds_toArray, List.set_cons_zero, List.set_cons_succ, i64_w, i32_w]
    rfl
  refine pure_ (i := 22) (N := some 45) (v := ?_) (a' := ?_) #[true, true, true, true, true, true, true, true, true, true, true, true, true, true, true, true, true, true, true, true, true, true, true, false, false] rfl rfl (by kernel_rfl) (fun _ _ _ h => h) (Or.inl ⟨by rfl, ?_⟩) ?_ ?_
  rotate_left
  · intro w'
    go_simp
    with_reducible rfl
  rotate_left
  · simp only [Act.put, List.setIfInBounds_toArray, List.set_cons_zero, List.set_cons_succ, i64_w, i32_w]
    rfl
  refine pure_ (i := 23) (N := some 46) (v := ?_) (a' := ?_) #[true, true, true, true, true, true, true, true, true, true, true, true, true, true, true, true, true, true, true, true, true, true, true, true, false] rfl rfl (by kernel_rfl) (fun _ _ _ h => h) (Or.inl ⟨by rfl, ?_⟩) ?_ ?_
  rotate_left
  · intro w'
    go_simp
    with_reducible rfl
  rotate_left
  · simp only [Act.put, List.setIfInBounds_toArray, List.set_cons_zero, List.set_cons_succ, i64_w, i32_w]
    rfl
  refine pure_ (i := 24) (N := some 4) (v := ?_) (a' := ?_) #[true, true, true, true, true, true, true, true, true, true, true, true, true, true, true, true, true, true, true, true, true, true, true, true, true] rfl rfl (by kernel_rfl) (fun _ _ _ h => h) (Or.inl ⟨by rfl, ?_⟩) ?_ ?_
  rotate_left
  · intro w'
    go_simp
    with_reducible rfl
  rotate_left
  · simp only [Act.put, List.setIfInBounds_toArray, List.set_cons_zero, List.set_cons_succ, i64_w, i32_w]
    rfl
  refine done_ (by kernel_rfl) ?_
  all_goals go_wp2_with fail
  all_goals (go_ret; exact ⟨rfl, by repeat (with_reducible first | apply pw_below_drewN | apply below_drew1 | apply below_alloc | exact Below.refl _ _ | (refine below_set ?_ (by first | omega | (simp; omega))) | (refine below_next ?_ (by assumption)))⟩)
set_option maxHeartbeats 4000000 in
set_option maxRecDepth 100000 in
theorem TimesBack_w2 (a0_0 a0_1 a1_0 a1_1 q1 q2 r1 r2 p1 p2 : Int) (w : World) (hQ : QuoRem.f a0_0 a0_1 a1_0 a1_1 = some (q1, q2, r1, r2, 0)) (hM : Mul.f q1 q2 a1_0 a1_1 = some (p1, p2, 0)) (hD : WF.Add.f p1 p2 r1 r2 = some (a0_0, a0_1, 0)) (hN : nearer.f r1 r2 a1_0 a1_1 = some true) (s1 : Int) (hS : WF.Sign.f r1 r2 = some s1) (hx : (s1 == 0) = true) :
    Calls Try.prog 8 #[.agg #[.int .i64 a0_0, .int .u64 a0_1], .agg #[.int .i64 a1_0, .int .u64 a1_1]] w fun e w' => e = .returned (.bool true) ∧ Below w.heap.size w w' := by
  have HW := fun W => Lib.hid (awake.calls W)
  have HQ := fun W => Lib.hid (QuoRem.calls _ _ _ _ _ _ _ _ _ W hQ)
  have HM := fun W => Lib.hid (Mul.calls _ _ _ _ _ _ _ W hM)
  have HD := fun W => Lib.hid (WF.Add.calls _ _ _ _ _ _ _ W hD)
  have HN := fun W => Lib.hid (nearer.calls _ _ _ _ _ W hN)
  have HS := fun W => Lib.hid (WF.Sign.calls _ _ _ W hS)
  clear hQ hM hD hN hS
  go_enter Try.func8, Try.ntmps8
  go_wp2_with fail
  refine ((HW _).out).mono ?_
  rintro e w1 ⟨rfl, hb1⟩
  obtain ⟨hc1, hf1⟩ := bcell hb1
  have s1_a : w.heap.size < w1.heap.size := (by have := hb1.size; (try simp at this); omega)
  have s1_b : w.heap.size + 1 < w1.heap.size := (by have := hb1.size; (try simp at this); omega)
  have c1_a_0 : w1.cell? ⟨w.heap.size, 0, none⟩ = some (.int .i64 a0_0) := (by rw [hc1 _ _ (by first | omega | (simp; done) | (simp; omega))]; simp [go_sem])
  have c1_a_1 : w1.cell? ⟨w.heap.size, 1, none⟩ = some (.int .u64 a0_1) := (by rw [hc1 _ _ (by first | omega | (simp; done) | (simp; omega))]; simp [go_sem])
  have c1_b_0 : w1.cell? ⟨w.heap.size + 1, 0, none⟩ = some (.int .i64 a1_0) := (by rw [hc1 _ _ (by first | omega | (simp; done) | (simp; omega))]; simp [go_sem])
  have c1_b_1 : w1.cell? ⟨w.heap.size + 1, 1, none⟩ = some (.int .u64 a1_1) := (by rw [hc1 _ _ (by first | omega | (simp; done) | (simp; omega))]; simp [go_sem])
  go_wp2_with fail
  refine ((HQ _).out).mono ?_
  rintro e w2 ⟨rfl, hb2⟩
  obtain ⟨hc2, hf2⟩ := bcell hb2
  have s2_a : w.heap.size < w2.heap.size := (by have := hb2.size; (try simp at this); omega)
  have s2_b : w.heap.size + 1 < w2.heap.size := (by have := hb2.size; (try simp at this); omega)
  have c2_a_0 : w2.cell? ⟨w.heap.size, 0, none⟩ = some (.int .i64 a0_0) := (by rw [hc2 _ _ (by first | omega | (simp; done) | (simp; omega))]; simp [go_sem, c1_a_0, s1_a, s1_b])
  have c2_a_1 : w2.cell? ⟨w.heap.size, 1, none⟩ = some (.int .u64 a0_1) := (by rw [hc2 _ _ (by first | omega | (simp; done) | (simp; omega))]; simp [go_sem, c1_a_1, s1_a, s1_b])
  have c2_b_0 : w2.cell? ⟨w.heap.size + 1, 0, none⟩ = some (.int .i64 a1_0) := (by rw [hc2 _ _ (by first | omega | (simp; done) | (simp; omega))]; simp [go_sem, c1_b_0, s1_a, s1_b])
  have c2_b_1 : w2.cell? ⟨w.heap.size + 1, 1, none⟩ = some (.int .u64 a1_1) := (by rw [hc2 _ _ (by first | omega | (simp; done) | (simp; omega))]; simp [go_sem, c1_b_1, s1_a, s1_b])
  go_wp2_with fail
  refine ((HM _).out).mono ?_
  rintro e w3 ⟨rfl, hb3⟩
  obtain ⟨hc3, hf3⟩ := bcell hb3
  have s3_a : w.heap.size < w3.heap.size := (by have := hb3.size; (try simp at this); omega)
  have s3_b : w.heap.size + 1 < w3.heap.size := (by have := hb3.size; (try simp at this); omega)
  have s3_q : w2.heap.size < w3.heap.size := (by have := hb3.size; (try simp at this); omega)
  have s3_r : w2.heap.size + 1 < w3.heap.size := (by have := hb3.size; (try simp at this); omega)
  have c3_a_0 : w3.cell? ⟨w.heap.size, 0, none⟩ = some (.int .i64 a0_0) := (by rw [hc3 _ _ (by first | omega | (simp; done) | (simp; omega))]; simp [go_sem, c2_a_0, s2_a, s2_b])
  have c3_a_1 : w3.cell? ⟨w.heap.size, 1, none⟩ = some (.int .u64 a0_1) := (by rw [hc3 _ _ (by first | omega | (simp; done) | (simp; omega))]; simp [go_sem, c2_a_1, s2_a, s2_b])
  have c3_b_0 : w3.cell? ⟨w.heap.size + 1, 0, none⟩ = some (.int .i64 a1_0) := (by rw [hc3 _ _ (by first | omega | (simp; done) | (simp; omega))]; simp [go_sem, c2_b_0, s2_a, s2_b])
  have c3_b_1 : w3.cell? ⟨w.heap.size + 1, 1, none⟩ = some (.int .u64 a1_1) := (by rw [hc3 _ _ (by first | omega | (simp; done) | (simp; omega))]; simp [go_sem, c2_b_1, s2_a, s2_b])
  have c3_q_0 : w3.cell? ⟨w2.heap.size, 0, none⟩ = some (.int .i64 q1) := (by rw [hc3 _ _ (by first | omega | (simp; done) | (simp; omega))]; simp [go_sem, s2_a, s2_b])
  have c3_q_1 : w3.cell? ⟨w2.heap.size, 1, none⟩ = some (.int .u64 q2) := (by rw [hc3 _ _ (by first | omega | (simp; done) | (simp; omega))]; simp [go_sem, s2_a, s2_b])
  have c3_r_0 : w3.cell? ⟨w2.heap.size + 1, 0, none⟩ = some (.int .i64 r1) := (by rw [hc3 _ _ (by first | omega | (simp; done) | (simp; omega))]; simp [go_sem, s2_a, s2_b])
  have c3_r_1 : w3.cell? ⟨w2.heap.size + 1, 1, none⟩ = some (.int .u64 r2) := (by rw [hc3 _ _ (by first | omega | (simp; done) | (simp; omega))]; simp [go_sem, s2_a, s2_b])
  go_wp2_with fail
  refine ((HD _).out).mono ?_
  rintro e w4 ⟨rfl, hb4⟩
  obtain ⟨hc4, hf4⟩ := bcell hb4
  have s4_a : w.heap.size < w4.heap.size := (by have := hb4.size; (try simp at this); omega)
  have s4_b : w.heap.size + 1 < w4.heap.size := (by have := hb4.size; (try simp at this); omega)
  have s4_q : w2.heap.size < w4.heap.size := (by have := hb4.size; (try simp at this); omega)
  have s4_r : w2.heap.size + 1 < w4.heap.size := (by have := hb4.size; (try simp at this); omega)
  have s4_p : w3.heap.size < w4.heap.size := (by have := hb4.size; (try simp at this); omega)
  have c4_a_0 : w4.cell? ⟨w.heap.size, 0, none⟩ = some (.int .i64 a0_0) := (by rw [hc4 _ _ (by first | omega | (simp; done) | (simp; omega))]; simp [go_sem, c3_a_0, s3_a, s3_b, s3_q, s3_r])
  have c4_a_1 : w4.cell? ⟨w.heap.size, 1, none⟩ = some (.int .u64 a0_1) := (by rw [hc4 _ _ (by first | omega | (simp; done) | (simp; omega))]; simp [go_sem, c3_a_1, s3_a, s3_b, s3_q, s3_r])
  have c4_b_0 : w4.cell? ⟨w.heap.size + 1, 0, none⟩ = some (.int .i64 a1_0) := (by rw [hc4 _ _ (by first | omega | (simp; done) | (simp; omega))]; simp [go_sem, c3_b_0, s3_a, s3_b, s3_q, s3_r])
  have c4_b_1 : w4.cell? ⟨w.heap.size + 1, 1, none⟩ = some (.int .u64 a1_1) := (by rw [hc4 _ _ (by first | omega | (simp; done) | (simp; omega))]; simp [go_sem, c3_b_1, s3_a, s3_b, s3_q, s3_r])
  have c4_q_0 : w4.cell? ⟨w2.heap.size, 0, none⟩ = some (.int .i64 q1) := (by rw [hc4 _ _ (by first | omega | (simp; done) | (simp; omega))]; simp [go_sem, c3_q_0, s3_a, s3_b, s3_q, s3_r])
  have c4_q_1 : w4.cell? ⟨w2.heap.size, 1, none⟩ = some (.int .u64 q2) := (by rw [hc4 _ _ (by first | omega | (simp; done) | (simp; omega))]; simp [go_sem, c3_q_1, s3_a, s3_b, s3_q, s3_r])
  have c4_r_0 : w4.cell? ⟨w2.heap.size + 1, 0, none⟩ = some (.int .i64 r1) := (by rw [hc4 _ _ (by first | omega | (simp; done) | (simp; omega))]; simp [go_sem, c3_r_0, s3_a, s3_b, s3_q, s3_r])
  have c4_r_1 : w4.cell? ⟨w2.heap.size + 1, 1, none⟩ = some (.int .u64 r2) := (by rw [hc4 _ _ (by first | omega | (simp; done) | (simp; omega))]; simp [go_sem, c3_r_1, s3_a, s3_b, s3_q, s3_r])
  have c4_p_0 : w4.cell? ⟨w3.heap.size, 0, none⟩ = some (.int .i64 p1) := (by rw [hc4 _ _ (by first | omega | (simp; done) | (simp; omega))]; simp [go_sem, s3_a, s3_b, s3_q, s3_r])
  have c4_p_1 : w4.cell? ⟨w3.heap.size, 1, none⟩ = some (.int .u64 p2) := (by rw [hc4 _ _ (by first | omega | (simp; done) | (simp; omega))]; simp [go_sem, s3_a, s3_b, s3_q, s3_r])
  go_wp2_with fail
  refine start_ (n := 29) (S := fun w' => w'.cell? ⟨w.heap.size, 0, none⟩ = some (.int .i64 a0_0) ∧ w'.cell? ⟨w.heap.size, 1, none⟩ = some (.int .u64 a0_1) ∧ w'.cell? ⟨w.heap.size + 1, 0, none⟩ = some (.int .i64 a1_0) ∧ w'.cell? ⟨w.heap.size + 1, 1, none⟩ = some (.int .u64 a1_1) ∧ w'.cell? ⟨w2.heap.size, 0, none⟩ = some (.int .i64 q1) ∧ w'.cell? ⟨w2.heap.size, 1, none⟩ = some (.int .u64 q2) ∧ w'.cell? ⟨w2.heap.size + 1, 0, none⟩ = some (.int .i64 r1) ∧ w'.cell? ⟨w2.heap.size + 1, 1, none⟩ = some (.int .u64 r2) ∧ w'.cell? ⟨w3.heap.size, 0, none⟩ = some (.int .i64 p1) ∧ w'.cell? ⟨w3.heap.size, 1, none⟩ = some (.int .u64 p2) ∧ w'.cell? ⟨w4.heap.size, 0, none⟩ = some (.int .i64 a0_0) ∧ w'.cell? ⟨w4.heap.size, 1, none⟩ = some (.int .u64 a0_1)) (ds := []) #[false, false, false, false, false, false, false, false, false, false, false, false, false, false, false, false, false, false, false, false, false, false, false, false, false, false, false, false, false] (by kernel_rfl) rfl rfl ⟨(by simp [go_sem, c4_a_0, c4_a_1, c4_b_0, c4_b_1, c4_q_0, c4_q_1, c4_r_0, c4_r_1, c4_p_0, c4_p_1, s4_a, s4_b, s4_q, s4_r, s4_p]), (by simp [go_sem, c4_a_0, c4_a_1, c4_b_0, c4_b_1, c4_q_0, c4_q_1, c4_r_0, c4_r_1, c4_p_0, c4_p_1, s4_a, s4_b, s4_q, s4_r, s4_p]), (by simp [go_sem, c4_a_0, c4_a_1, c4_b_0, c4_b_1, c4_q_0, c4_q_1, c4_r_0, c4_r_1, c4_p_0, c4_p_1, s4_a, s4_b, s4_q, s4_r, s4_p]), (by simp [go_sem, c4_a_0, c4_a_1, c4_b_0, c4_b_1, c4_q_0, c4_q_1, c4_r_0, c4_r_1, c4_p_0, c4_p_1, s4_a, s4_b, s4_q, s4_r, s4_p]), (by simp [go_sem, c4_a_0, c4_a_1, c4_b_0, c4_b_1, c4_q_0, c4_q_1, c4_r_0, c4_r_1, c4_p_0, c4_p_1, s4_a, s4_b, s4_q, s4_r, s4_p]), (by simp [go_sem, c4_a_0, c4_a_1, c4_b_0, c4_b_1, c4_q_0, c4_q_1, c4_r_0, c4_r_1, c4_p_0, c4_p_1, s4_a, s4_b, s4_q, s4_r, s4_p]), (by simp [go_sem, c4_a_0, c4_a_1, c4_b_0, c4_b_1, c4_q_0, c4_q_1, c4_r_0, c4_r_1, c4_p_0, c4_p_1, s4_a, s4_b, s4_q, s4_r, s4_p]), (by simp [go_sem, c4_a_0, c4_a_1, c4_b_0, c4_b_1, c4_q_0, c4_q_1, c4_r_0, c4_r_1, c4_p_0, c4_p_1, s4_a, s4_b, s4_q, s4_r, s4_p]), (by simp [go_sem, c4_a_0, c4_a_1, c4_b_0, c4_b_1, c4_q_0, c4_q_1, c4_r_0, c4_r_1, c4_p_0, c4_p_1, s4_a, s4_b, s4_q, s4_r, s4_p]), (by simp [go_sem, c4_a_0, c4_a_1, c4_b_0, c4_b_1, c4_q_0, c4_q_1, c4_r_0, c4_r_1, c4_p_0, c4_p_1, s4_a, s4_b, s4_q, s4_r, s4_p]), (by simp [go_sem]), (by simp [go_sem])⟩ (fun hHeld => ?_)
  refine pure_ (i := 0) (N := some 59) (v := ?_) (a' := ?_) #[true, false, false, false, false, false, false, false, false, false, false, false, false, false, false, false, false, false, false, false, false, false, false, false, false, false, false, false, false] rfl rfl (by kernel_rfl) (fun _ _ _ h => h) (Or.inl ⟨by rfl, ?_⟩) ?_ ?_
  rotate_left
  · intro w'
    go_simp
    with_reducible rfl
  rotate_left
  · simp only [Act.put, List.setIfInBounds_toArray, List.set_cons_zero, List.set_cons_succ, i64_w, i32_w]
    rfl
  refine pure_ (i := 1) (N := some 60) (v := ?_) (a' := ?_) #[true, true, false, false, false, false, false, false, false, false, false, false, false, false, false, false, false, false, false, false, false, false, false, false, false, false, false, false, false] rfl rfl (by kernel_rfl) (fun _ _ _ h => h) (Or.inl ⟨by rfl, ?_⟩) ?_ ?_
  rotate_left
  · intro w'
    go_simp
    with_reducible rfl
  rotate_left
  · simp only [Act.put, List.setIfInBounds_toArray, List.set_cons_zero, List.set_cons_succ, i64_w, i32_w]
    rfl
  refine pure_ (i := 2) (N := some 61) (v := ?_) (a' := ?_) #[true, true, true, false, false, false, false, false, false, false, false, false, false, false, false, false, false, false, false, false, false, false, false, false, false, false, false, false, false] rfl rfl (by kernel_rfl) (fun _ _ _ h => h) (Or.inl ⟨by rfl, ?_⟩) ?_ ?_
  rotate_left
  · intro w'
    go_simp
    with_reducible rfl
  rotate_left
  · simp only [Act.put, List.setIfInBounds_toArray, List.set_cons_zero, List.set_cons_succ, i64_w, i32_w]
    rfl
  refine pure_ (i := 3) (N := some 62) (v := ?_) (a' := ?_) #[true, true, true, true, false, false, false, false, false, false, false, false, false, false, false, false, false, false, false, false, false, false, false, false, false, false, false, false, false] rfl rfl (by kernel_rfl) (fun _ _ _ h => h) (Or.inl ⟨by rfl, ?_⟩) ?_ ?_
  rotate_left
  · intro w'
    go_simp
    with_reducible rfl
  rotate_left
  · simp only [Act.put, List.setIfInBounds_toArray, List.set_cons_zero, List.set_cons_succ, i64_w, i32_w]
    rfl
  refine pure_ (i := 4) (N := some 63) (v := ?_) (a' := ?_) #[true, true, true, true, true, false, false, false, false, false, false, false, false, false, false, false, false, false, false, false, false, false, false, false, false, false, false, false, false] rfl rfl (by kernel_rfl) (fun _ _ _ h => h) (Or.inl ⟨by rfl, ?_⟩) ?_ ?_
  rotate_left
  · intro w'
    go_simp
    with_reducible rfl
  rotate_left
  · simp only [Act.put, List.setIfInBounds_toArray, List.set_cons_zero, List.set_cons_succ, i64_w, i32_w]
    rfl
  refine pure_ (i := 5) (N := some 64) (v := ?_) (a' := ?_) #[true, true, true, true, true, true, false, false, false, false, false, false, false, false, false, false, false, false, false, false, false, false, false, false, false, false, false, false, false] rfl rfl (by kernel_rfl) (fun _ _ _ h => h) (Or.inl ⟨by rfl, ?_⟩) ?_ ?_
  rotate_left
  · intro w'
    go_simp
    with_reducible rfl
  rotate_left
  · simp only [Act.put, List.setIfInBounds_toArray, List.set_cons_zero, List.set_cons_succ, i64_w, i32_w]
    rfl
  refine pure_ (i := 6) (N := some 65) (v := ?_) (a' := ?_) #[true, true, true, true, true, true, true, false, false, false, false, false, false, false, false, false, false, false, false, false, false, false, false, false, false, false, false, false, false] rfl rfl (by kernel_rfl) (fun _ _ _ h => h) (Or.inl ⟨by rfl, ?_⟩) ?_ ?_
  rotate_left
  · intro w'
    go_simp
    with_reducible rfl
  rotate_left
  · simp only [Act.put, List.setIfInBounds_toArray, List.set_cons_zero, List.set_cons_succ, i64_w, i32_w]
    rfl
  refine take_ (i := 7) (N := some 66) (v := ?_) (a' := ?_) #[true, true, true, true, true, true, true, true, false, false, false, false, false, false, false, false, false, false, false, false, false, false, false, false, false, false, false, false, false] rfl rfl (by kernel_rfl) (fun _ _ _ h => h) (Or.inl ⟨by rfl, ?_⟩) hHeld ?_ ?_
  rotate_left
  · rintro w' ⟨s0, s1, s2, s3, s4, s5, s6, s7, s8, s9, s10, s11⟩
    go_simp
    with_reducible rfl
  rotate_left
  · simp only [Act.put, List.setIfInBounds_toArray, List.set_cons_zero, List.set_cons_succ, i64_w, i32_w]
    rfl
  refine take_ (i := 8) (N := some 67) (v := ?_) (a' := ?_) #[true, true, true, true, true, true, true, true, true, false, false, false, false, false, false, false, false, false, false, false, false, false, false, false, false, false, false, false, false] rfl rfl (by kernel_rfl) (fun _ _ _ h => h) (Or.inl ⟨by rfl, ?_⟩) hHeld ?_ ?_
  rotate_left
  · rintro w' ⟨s0, s1, s2, s3, s4, s5, s6, s7, s8, s9, s10, s11⟩
    go_simp
    with_reducible rfl
  rotate_left
  · simp only [Act.put, List.setIfInBounds_toArray, List.set_cons_zero, List.set_cons_succ, i64_w, i32_w]
    rfl
  refine pure_ (i := 9) (N := some 68) (v := ?_) (a' := ?_) #[true, true, true, true, true, true, true, true, true, true, false, false, false, false, false, false, false, false, false, false, false, false, false, false, false, false, false, false, false] rfl rfl (by kernel_rfl) (fun _ _ _ h => h) (Or.inl ⟨by rfl, ?_⟩) ?_ ?_
  rotate_left
  · intro w'
    go_simp
    with_reducible rfl
  rotate_left
  · simp only [Act.put, List.setIfInBounds_toArray, List.set_cons_zero, List.set_cons_succ, i64_w, i32_w]
    rfl
  refine pure_ (i := 10) (N := some 69) (v := ?_) (a' := ?_) #[true, true, true, true, true, true, true, true, true, true, true, false, false, false, false, false, false, false, false, false, false, false, false, false, false, false, false, false, false] rfl rfl (by kernel_rfl) (fun _ _ _ h => h) (Or.inl ⟨by rfl, ?_⟩) ?_ ?_
  rotate_left
  · intro w'
    go_simp
    with_reducible rfl
  rotate_left
  · simp only [Act.put, List.setIfInBounds_toArray, List.set_cons_zero, List.set_cons_succ, i64_w, i32_w]
    rfl
  refine pure_ (i := 11) (N := some 70) (v := ?_) (a' := ?_) #[true, true, true, true, true, true, true, true, true, true, true, true, false, false, false, false, false, false, false, false, false, false, false, false, false, false, false, false, false] rfl rfl (by kernel_rfl) (fun _ _ _ h => h) (Or.inl ⟨by rfl, ?_⟩) ?_ ?_
  rotate_left
  · intro w'
    go_simp
    with_reducible rfl
  rotate_left
  · simp only [Act.put, List.setIfInBounds_toArray, List.set_cons_zero, List.set_cons_succ, i64_w, i32_w]
    rfl
  refine take_ (i := 12) (N := some 71) (v := ?_) (a' := ?_) #[true, true, true, true, true, true, true, true, true, true, true, true, true, false, false, false, false, false, false, false, false, false, false, false, false, false, false, false, false] rfl rfl (by kernel_rfl) (fun _ _ _ h => h) (Or.inl ⟨by rfl, ?_⟩) hHeld ?_ ?_
  rotate_left
  · rintro w' ⟨s0, s1, s2, s3, s4, s5, s6, s7, s8, s9, s10, s11⟩
    go_simp
    with_reducible rfl
  rotate_left
  · simp only [Act.put, List.setIfInBounds_toArray, List.set_cons_zero, List.set_cons_succ, i64_w, i32_w]
    rfl
  refine take_ (i := 13) (N := some 72) (v := ?_) (a' := ?_) #[true, true, true, true, true, true, true, true, true, true, true, true, true, true, false, false, false, false, false, false, false, false, false, false, false, false, false, false, false] rfl rfl (by kernel_rfl) (fun _ _ _ h => h) (Or.inl ⟨by rfl, ?_⟩) hHeld ?_ ?_
  rotate_left
  · rintro w' ⟨s0, s1, s2, s3, s4, s5, s6, s7, s8, s9, s10, s11⟩
    go_simp
    with_reducible rfl
  rotate_left
  · simp only [Act.put, List.setIfInBounds_toArray, List.set_cons_zero, List.set_cons_succ, i64_w, i32_w]
    rfl
  refine one_ (i := 14) (N := some 73) #[true, true, true, true, true, true, true, true, true, true, true, true, true, true, true, false, false, false, false, false, false, false, false, false, false, false, false, false, false] rfl rfl (by kernel_rfl) (by decide) (fun K hK => ?_)
  refine goes_ Try.func23 (by kernel_rfl) rfl #[.agg #[.int .i64 r1, .int .u64 r2], .agg #[.int .i64 a1_0, .int .u64 a1_1]] (by rfl) rfl rfl (by simp only [List.map_toArray, List.map_cons, List.map_nil]; rfl) ?_
  with_reducible refine ((HN _).out).mono ?_
  rintro e wr_0 ⟨rfl, hbr_0⟩
  refine ⟨_, rfl, ?_⟩
  obtain ⟨hh0, hh1, hh2, hh3, hh4, hh5, hh6, hh7, hh8, hh9, hh10, hh11⟩ := hHeld
  refine hK.out _ _ ⟨keepc hbr_0 (by assumption), keepc hbr_0 (by assumption), keepc hbr_0 (by assumption), keepc hbr_0 (by assumption), keepc hbr_0 (by assumption), keepc hbr_0 (by assumption), keepc hbr_0 (by assumption), keepc hbr_0 (by assumption), keepc hbr_0 (by assumption), keepc hbr_0 (by assumption), keepc hbr_0 (by assumption), keepc hbr_0 (by assumption)⟩ (fun hHeld => ?_)
  clear hK K
  refine norm_ (a' := ?_) ?_ ?_
  rotate_left
  · show Act.put _ (some 73) _ = _
    simp only [Act.put, List.setIfInBounds_toArray, List.set_cons_zero, List.set_cons_succ, i64_w, i32_w]
    rfl
  refine pure_ (i := 15) (N := some 74) (v := ?_) (a' := ?_) #[true, true, true, true, true, true, true, true, true, true, true, true, true, true, true, true, false, false, false, false, false, false, false, false, false, false, false, false, false] rfl rfl (by kernel_rfl) (fun _ _ _ h => h) (Or.inl ⟨by rfl, ?_⟩) ?_ ?_
  rotate_left
  · intro w'
    go_simp
    with_reducible rfl
  rotate_left
  · simp only [Act.put, List.setIfInBounds_toArray, List.set_cons_zero, List.set_cons_succ, i64_w, i32_w]
    rfl
  refine pure_ (i := 16) (N := some 75) (v := ?_) (a' := ?_) #[true, true, true, true, true, true, true, true, true, true, true, true, true, true, true, true, true, false, false, false, false, false, false, false, false, false, false, false, false] rfl rfl (by kernel_rfl) (fun _ _ _ h => h) (Or.inl ⟨by rfl, ?_⟩) ?_ ?_
  rotate_left
  · intro w'
    go_simp
    with_reducible rfl
  rotate_left
  · simp only [Act.put, List.setIfInBounds_toArray, List.set_cons_zero, List.set_cons_succ, i64_w, i32_w]
    rfl
  refine take_ (i := 17) (N := some 76) (v := ?_) (a' := ?_) #[true, true, true, true, true, true, true, true, true, true, true, true, true, true, true, true, true, true, false, false, false, false, false, false, false, false, false, false, false] rfl rfl (by kernel_rfl) (fun _ _ _ h => h) (Or.inl ⟨by rfl, ?_⟩) hHeld ?_ ?_
  rotate_left
  · rintro w' ⟨s0, s1, s2, s3, s4, s5, s6, s7, s8, s9, s10, s11⟩
    go_simp
    with_reducible rfl
  rotate_left
  · simp only [Act.put, List.setIfInBounds_toArray, List.set_cons_zero, List.set_cons_succ, i64_w, i32_w]
    rfl
  refine one_ (i := 18) (N := some 77) #[true, true, true, true, true, true, true, true, true, true, true, true, true, true, true, true, true, true, true, false, false, false, false, false, false, false, false, false, false] rfl rfl (by kernel_rfl) (by decide) (fun K hK => ?_)
  refine goes_ Try.func22 (by kernel_rfl) rfl #[.agg #[.int .i64 r1, .int .u64 r2]] (by rfl) rfl rfl (by simp only [List.map_toArray, List.map_cons, List.map_nil]; rfl) ?_
  with_reducible refine ((HS _).out).mono ?_
  rintro e wr ⟨rfl, hbr⟩
  refine ⟨_, rfl, ?_⟩
  obtain ⟨hh0, hh1, hh2, hh3, hh4, hh5, hh6, hh7, hh8, hh9, hh10, hh11⟩ := hHeld
  refine hK.out _ _ ⟨keepc hbr (by assumption), keepc hbr (by assumption), keepc hbr (by assumption), keepc hbr (by assumption), keepc hbr (by assumption), keepc hbr (by assumption), keepc hbr (by assumption), keepc hbr (by assumption), keepc hbr (by assumption), keepc hbr (by assumption), keepc hbr (by assumption), keepc hbr (by assumption)⟩ (fun hHeld => ?_)
  clear hK K
  refine norm_ (a' := ?_) ?_ ?_
  rotate_left
  · show Act.put _ (some 77) _ = _
    simp only [Act.put, List.setIfInBounds_toArray, List.set_cons_zero, List.set_cons_succ, i64_w, i32_w]
    rfl
  refine pure_ (i := 19) (N := some 78) (v := ?_) (a' := ?_) #[true, true, true, true, true, true, true, true, true, true, true, true, true, true, true, true, true, true, true, true, false, false, false, false, false, false, false, false, false] rfl rfl (by kernel_rfl) (fun _ _ _ h => h) (Or.inl ⟨by rfl, ?_⟩) ?_ ?_
  rotate_left
  · intro w'
    go_simp
    with_reducible rfl
  rotate_left
  · simp only [Act.put, List.setIfInBounds_toArray, List.set_cons_zero, List.set_cons_succ, i64_w, i32_w]
    rfl
  refine pure_ (i := 20) (N := some 79) (v := ?_) (a' := ?_) #[true, true, true, true, true, true, true, true, true, true, true, true, true, true, true, true, true, true, true, true, true, false, false, false, false, false, false, false, false] rfl rfl (by kernel_rfl) (fun _ _ _ h => h) (Or.inl ⟨by rfl, ?_⟩) ?_ ?_
  rotate_left
  · intro w'
    go_simp
    with_reducible rfl
  rotate_left
  · simp only [Act.put, List.setIfInBounds_toArray, List.set_cons_zero, List.set_cons_succ, i64_w, i32_w]
    rfl
  refine pure_ (i := 21) (N := some 80) (v := undef) (a' := ?_) #[true, true, true, true, true, true, true, true, true, true, true, true, true, true, true, true, true, true, true, true, true, true, false, false, false, false, false, false, false] rfl rfl (by kernel_rfl) (fun _ _ _ h => h) (Or.inr ⟨by rfl, rfl⟩) ?_ ?_
  rotate_left
  · simp only [Act.put, List.setIfInBounds_toArray, List.set_cons_zero, List.set_cons_succ, i64_w, i32_w]
    rfl
  refine pure_ (i := 22) (N := some 81) (v := undef) (a' := ?_) #[true, true, true, true, true, true, true, true, true, true, true, true, true, true, true, true, true, true, true, true, true, true, true, false, false, false, false, false, false] rfl rfl (by kernel_rfl) (fun _ _ _ h => h) (Or.inr ⟨by rfl, rfl⟩) ?_ ?_
  rotate_left
  · simp only [Act.put, List.setIfInBounds_toArray, List.set_cons_zero, List.set_cons_succ, i64_w, i32_w]
    rfl
  refine pure_ (i := 23) (N := some 82) (v := undef) (a' := ?_) #[true, true, true, true, true, true, true, true, true, true, true, true, true, true, true, true, true, true, true, true, true, true, true, true, false, false, false, false, false] rfl rfl (by kernel_rfl) (fun _ _ _ h => h) (Or.inr ⟨by rfl, rfl⟩) ?_ ?_
  rotate_left
  · simp only [Act.put, List.setIfInBounds_toArray, List.set_cons_zero, List.set_cons_succ, i64_w, i32_w]
    rfl
  refine pure_ (i := 24) (N := some 83) (v := undef) (a' := ?_) #[true, true, true, true, true, true, true, true, true, true, true, true, true, true, true, true, true, true, true, true, true, true, true, true, true, false, false, false, false] rfl rfl (by kernel_rfl) (fun _ _ _ h => h) (Or.inr ⟨by rfl, rfl⟩) ?_ ?_
  rotate_left
  · simp only [Act.put, List.setIfInBounds_toArray, List.set_cons_zero, List.set_cons_succ, i64_w, i32_w]
    rfl
  refine pure_ (i := 25) (N := some 84) (v := undef) (a' := ?_) #[true, true, true, true, true, true, true, true, true, true, true, true, true, true, true, true, true, true, true, true, true, true, true, true, true, true, false, false, false] rfl rfl (by kernel_rfl) (fun _ _ _ h => h) (Or.inr ⟨by rfl, rfl⟩) ?_ ?_
  rotate_left
  · simp only [Act.put, List.setIfInBounds_toArray, List.set_cons_zero, List.set_cons_succ, i64_w, i32_w]
    rfl
  refine pure_ (i := 26) (N := some 85) (v := ?_) (a' := ?_) #[true, true, true, true, true, true, true, true, true, true, true, true, true, true, true, true, true, true, true, true, true, true, true, true, true, true, true, false, false] rfl rfl (by kernel_rfl) (fun _ _ _ h => h) (Or.inl ⟨by rfl, ?_⟩) ?_ ?_
  rotate_left
  · intro w'
    go_simp
    with_reducible rfl
  rotate_left
  · simp only [Act.put, List.setIfInBounds_toArray, List.set_cons_zero, List.set_cons_succ, i64_w, i32_w]
    rfl
  refine pure_ (i := 27) (N := some 86) (v := ?_) (a' := ?_) #[true, true, true, true, true, true, true, true, true, true, true, true, true, true, true, true, true, true, true, true, true, true, true, true, true, true, true, true, false] rfl rfl (by kernel_rfl) (fun _ _ _ h => h) (Or.inl ⟨by rfl, ?_⟩) ?_ ?_
  rotate_left
  · intro w'
    go_simp
    with_reducible rfl
  rotate_left
  · simp only [Act.put, List.setIfInBounds_toArray, List.set_cons_zero, List.set_cons_succ, i64_w, i32_w]
    rfl
  refine pure_ (i := 28) (N := some 4) (v := ?_) (a' := ?_) #[true, true, true, true, true, true, true, true, true, true, true, true, true, true, true, true, true, true, true, true, true, true, true, true, true, true, true, true, true] rfl rfl (by kernel_rfl) (fun _ _ _ h => h) (Or.inl ⟨by rfl, ?_⟩) ?_ ?_
  rotate_left
  · intro w'
    go_simp
    with_reducible rfl
  rotate_left
  · simp only [Act.put, List.setIfInBounds_toArray, List.set_cons_zero, List.set_cons_succ, i64_w, i32_w]
    rfl
  refine done_ (by kernel_rfl) ?_
  all_goals go_wp2_with fail
  all_goals (go_ret; exact ⟨rfl, by repeat (with_reducible first | apply pw_below_drewN | apply below_drew1 | apply below_alloc | exact Below.refl _ _ | (refine below_set ?_ (by first | omega | (simp; omega))) | (refine below_next ?_ (by assumption)))⟩)
set_option maxHeartbeats 4000000 in
set_option maxRecDepth 100000 in
theorem TimesBack_w3 (a0_0 a0_1 a1_0 a1_1 q1 q2 r1 r2 p1 p2 : Int) (w : World) (hQ : QuoRem.f a0_0 a0_1 a1_0 a1_1 = some (q1, q2, r1, r2, 0)) (hM : Mul.f q1 q2 a1_0 a1_1 = some (p1, p2, 0)) (hD : WF.Add.f p1 p2 r1 r2 = some (a0_0, a0_1, 0)) (hN : nearer.f r1 r2 a1_0 a1_1 = some true) (s1 : Int) (hS : WF.Sign.f r1 r2 = some s1) (hx : (s1 == 0) = false) (s2 : Int) (hS2 : WF.Sign.f a0_0 a0_1 = some s2) (hy : (s1 == s2) = true) :
    Calls Try.prog 8 #[.agg #[.int .i64 a0_0, .int .u64 a0_1], .agg #[.int .i64 a1_0, .int .u64 a1_1]] w fun e w' => e = .returned (.bool true) ∧ Below w.heap.size w w' := by
  have HW := fun W => Lib.hid (awake.calls W)
  have HQ := fun W => Lib.hid (QuoRem.calls _ _ _ _ _ _ _ _ _ W hQ)
  have HM := fun W => Lib.hid (Mul.calls _ _ _ _ _ _ _ W hM)
  have HD := fun W => Lib.hid (WF.Add.calls _ _ _ _ _ _ _ W hD)
  have HN := fun W => Lib.hid (nearer.calls _ _ _ _ _ W hN)
  have HS := fun W => Lib.hid (WF.Sign.calls _ _ _ W hS)
  have HS2 := fun W => Lib.hid (WF.Sign.calls _ _ _ W hS2)
  clear hS2
  clear hQ hM hD hN hS
  go_enter Try.func8, Try.ntmps8
  go_wp2_with fail
  refine ((HW _).out).mono ?_
  rintro e w1 ⟨rfl, hb1⟩
  obtain ⟨hc1, hf1⟩ := bcell hb1
  have s1_a : w.heap.size < w1.heap.size := (by have := hb1.size; (try simp at this); omega)
  have s1_b : w.heap.size + 1 < w1.heap.size := (by have := hb1.size; (try simp at this); omega)
  have c1_a_0 : w1.cell? ⟨w.heap.size, 0, none⟩ = some (.int .i64 a0_0) := (by rw [hc1 _ _ (by first | omega | (simp; done) | (simp; omega))]; simp [go_sem])
  have c1_a_1 : w1.cell? ⟨w.heap.size, 1, none⟩ = some (.int .u64 a0_1) := (by rw [hc1 _ _ (by first | omega | (simp; done) | (simp; omega))]; simp [go_sem])
  have c1_b_0 : w1.cell? ⟨w.heap.size + 1, 0, none⟩ = some (.int .i64 a1_0) := (by rw [hc1 _ _ (by first | omega | (simp; done) | (simp; omega))]; simp [go_sem])
  have c1_b_1 : w1.cell? ⟨w.heap.size + 1, 1, none⟩ = some (.int .u64 a1_1) := (by rw [hc1 _ _ (by first | omega | (simp; done) | (simp; omega))]; simp [go_sem])
  go_wp2_with fail
  refine ((HQ _).out).mono ?_
  rintro e w2 ⟨rfl, hb2⟩
  obtain ⟨hc2, hf2⟩ := bcell hb2
  have s2_a : w.heap.size < w2.heap.size := (by have := hb2.size; (try simp at this); omega)
  have s2_b : w.heap.size + 1 < w2.heap.size := (by have := hb2.size; (try simp at this); omega)
  have c2_a_0 : w2.cell? ⟨w.heap.size, 0, none⟩ = some (.int .i64 a0_0) := (by rw [hc2 _ _ (by first | omega | (simp; done) | (simp; omega))]; simp [go_sem, c1_a_0, s1_a, s1_b])
  have c2_a_1 : w2.cell? ⟨w.heap.size, 1, none⟩ = some (.int .u64 a0_1) := (by rw [hc2 _ _ (by first | omega | (simp; done) | (simp; omega))]; simp [go_sem, c1_a_1, s1_a, s1_b])
  have c2_b_0 : w2.cell? ⟨w.heap.size + 1, 0, none⟩ = some (.int .i64 a1_0) := (by rw [hc2 _ _ (by first | omega | (simp; done) | (simp; omega))]; simp [go_sem, c1_b_0, s1_a, s1_b])
  have c2_b_1 : w2.cell? ⟨w.heap.size + 1, 1, none⟩ = some (.int .u64 a1_1) := (by rw [hc2 _ _ (by first | omega | (simp; done) | (simp; omega))]; simp [go_sem, c1_b_1, s1_a, s1_b])
  go_wp2_with fail
  refine ((HM _).out).mono ?_
  rintro e w3 ⟨rfl, hb3⟩
  obtain ⟨hc3, hf3⟩ := bcell hb3
  have s3_a : w.heap.size < w3.heap.size := (by have := hb3.size; (try simp at this); omega)
  have s3_b : w.heap.size + 1 < w3.heap.size := (by have := hb3.size; (try simp at this); omega)
  have s3_q : w2.heap.size < w3.heap.size := (by have := hb3.size; (try simp at this); omega)
  have s3_r : w2.heap.size + 1 < w3.heap.size := (by have := hb3.size; (try simp at this); omega)
  have c3_a_0 : w3.cell? ⟨w.heap.size, 0, none⟩ = some (.int .i64 a0_0) := (by rw [hc3 _ _ (by first | omega | (simp; done) | (simp; omega))]; simp [go_sem, c2_a_0, s2_a, s2_b])
  have c3_a_1 : w3.cell? ⟨w.heap.size, 1, none⟩ = some (.int .u64 a0_1) := (by rw [hc3 _ _ (by first | omega | (simp; done) | (simp; omega))]; simp [go_sem, c2_a_1, s2_a, s2_b])
  have c3_b_0 : w3.cell? ⟨w.heap.size + 1, 0, none⟩ = some (.int .i64 a1_0) := (by rw [hc3 _ _ (by first | omega | (simp; done) | (simp; omega))]; simp [go_sem, c2_b_0, s2_a, s2_b])
  have c3_b_1 : w3.cell? ⟨w.heap.size + 1, 1, none⟩ = some (.int .u64 a1_1) := (by rw [hc3 _ _ (by first | omega | (simp; done) | (simp; omega))]; simp [go_sem, c2_b_1, s2_a, s2_b])
  have c3_q_0 : w3.cell? ⟨w2.heap.size, 0, none⟩ = some (.int .i64 q1) := (by rw [hc3 _ _ (by first | omega | (simp; done) | (simp; omega))]; simp [go_sem, s2_a, s2_b])
  have c3_q_1 : w3.cell? ⟨w2.heap.size, 1, none⟩ = some (.int .u64 q2) := (by rw [hc3 _ _ (by first | omega | (simp; done) | (simp; omega))]; simp [go_sem, s2_a, s2_b])
  have c3_r_0 : w3.cell? ⟨w2.heap.size + 1, 0, none⟩ = some (.int .i64 r1) := (by rw [hc3 _ _ (by first | omega | (simp; done) | (simp; omega))]; simp [go_sem, s2_a, s2_b])
  have c3_r_1 : w3.cell? ⟨w2.heap.size + 1, 1, none⟩ = some (.int .u64 r2) := (by rw [hc3 _ _ (by first | omega | (simp; done) | (simp; omega))]; simp [go_sem, s2_a, s2_b])
  go_wp2_with fail
  refine ((HD _).out).mono ?_
  rintro e w4 ⟨rfl, hb4⟩
  obtain ⟨hc4, hf4⟩ := bcell hb4
  have s4_a : w.heap.size < w4.heap.size := (by have := hb4.size; (try simp at this); omega)
  have s4_b : w.heap.size + 1 < w4.heap.size := (by have := hb4.size; (try simp at this); omega)
  have s4_q : w2.heap.size < w4.heap.size := (by have := hb4.size; (try simp at this); omega)
  have s4_r : w2.heap.size + 1 < w4.heap.size := (by have := hb4.size; (try simp at this); omega)
  have s4_p : w3.heap.size < w4.heap.size := (by have := hb4.size; (try simp at this); omega)
  have c4_a_0 : w4.cell? ⟨w.heap.size, 0, none⟩ = some (.int .i64 a0_0) := (by rw [hc4 _ _ (by first | omega | (simp; done) | (simp; omega))]; simp [go_sem, c3_a_0, s3_a, s3_b, s3_q, s3_r])
  have c4_a_1 : w4.cell? ⟨w.heap.size, 1, none⟩ = some (.int .u64 a0_1) := (by rw [hc4 _ _ (by first | omega | (simp; done) | (simp; omega))]; simp [go_sem, c3_a_1, s3_a, s3_b, s3_q, s3_r])
  have c4_b_0 : w4.cell? ⟨w.heap.size + 1, 0, none⟩ = some (.int .i64 a1_0) := (by rw [hc4 _ _ (by first | omega | (simp; done) | (simp; omega))]; simp [go_sem, c3_b_0, s3_a, s3_b, s3_q, s3_r])
  have c4_b_1 : w4.cell? ⟨w.heap.size + 1, 1, none⟩ = some (.int .u64 a1_1) := (by rw [hc4 _ _ (by first | omega | (simp; done) | (simp; omega))]; simp [go_sem, c3_b_1, s3_a, s3_b, s3_q, s3_r])
  have c4_q_0 : w4.cell? ⟨w2.heap.size, 0, none⟩ = some (.int .i64 q1) := (by rw [hc4 _ _ (by first | omega | (simp; done) | (simp; omega))]; simp [go_sem, c3_q_0, s3_a, s3_b, s3_q, s3_r])
  have c4_q_1 : w4.cell? ⟨w2.heap.size, 1, none⟩ = some (.int .u64 q2) := (by rw [hc4 _ _ (by first | omega | (simp; done) | (simp; omega))]; simp [go_sem, c3_q_1, s3_a, s3_b, s3_q, s3_r])
  have c4_r_0 : w4.cell? ⟨w2.heap.size + 1, 0, none⟩ = some (.int .i64 r1) := (by rw [hc4 _ _ (by first | omega | (simp; done) | (simp; omega))]; simp [go_sem, c3_r_0, s3_a, s3_b, s3_q, s3_r])
  have c4_r_1 : w4.cell? ⟨w2.heap.size + 1, 1, none⟩ = some (.int .u64 r2) := (by rw [hc4 _ _ (by first | omega | (simp; done) | (simp; omega))]; simp [go_sem, c3_r_1, s3_a, s3_b, s3_q, s3_r])
  have c4_p_0 : w4.cell? ⟨w3.heap.size, 0, none⟩ = some (.int .i64 p1) := (by rw [hc4 _ _ (by first | omega | (simp; done) | (simp; omega))]; simp [go_sem, s3_a, s3_b, s3_q, s3_r])
  have c4_p_1 : w4.cell? ⟨w3.heap.size, 1, none⟩ = some (.int .u64 p2) := (by rw [hc4 _ _ (by first | omega | (simp; done) | (simp; omega))]; simp [go_sem, s3_a, s3_b, s3_q, s3_r])
  go_wp2_with fail
  refine start_ (n := 29) (S := fun w' => w'.cell? ⟨w.heap.size, 0, none⟩ = some (.int .i64 a0_0) ∧ w'.cell? ⟨w.heap.size, 1, none⟩ = some (.int .u64 a0_1) ∧ w'.cell? ⟨w.heap.size + 1, 0, none⟩ = some (.int .i64 a1_0) ∧ w'.cell? ⟨w.heap.size + 1, 1, none⟩ = some (.int .u64 a1_1) ∧ w'.cell? ⟨w2.heap.size, 0, none⟩ = some (.int .i64 q1) ∧ w'.cell? ⟨w2.heap.size, 1, none⟩ = some (.int .u64 q2) ∧ w'.cell? ⟨w2.heap.size + 1, 0, none⟩ = some (.int .i64 r1) ∧ w'.cell? ⟨w2.heap.size + 1, 1, none⟩ = some (.int .u64 r2) ∧ w'.cell? ⟨w3.heap.size, 0, none⟩ = some (.int .i64 p1) ∧ w'.cell? ⟨w3.heap.size, 1, none⟩ = some (.int .u64 p2) ∧ w'.cell? ⟨w4.heap.size, 0, none⟩ = some (.int .i64 a0_0) ∧ w'.cell? ⟨w4.heap.size, 1, none⟩ = some (.int .u64 a0_1)) (ds := []) #[false, false, false, false, false, false, false, false, false, false, false, false, false, false, false, false, false, false, false, false, false, false, false, false, false, false, false, false, false] (by kernel_rfl) rfl rfl ⟨(by simp [go_sem, c4_a_0, c4_a_1, c4_b_0, c4_b_1, c4_q_0, c4_q_1, c4_r_0, c4_r_1, c4_p_0, c4_p_1, s4_a, s4_b, s4_q, s4_r, s4_p]), (by simp [go_sem, c4_a_0, c4_a_1, c4_b_0, c4_b_1, c4_q_0, c4_q_1, c4_r_0, c4_r_1, c4_p_0, c4_p_1, s4_a, s4_b, s4_q, s4_r, s4_p]), (by simp [go_sem, c4_a_0, c4_a_1, c4_b_0, c4_b_1, c4_q_0, c4_q_1, c4_r_0, c4_r_1, c4_p_0, c4_p_1, s4_a, s4_b, s4_q, s4_r, s4_p]), (by simp [go_sem, c4_a_0, c4_a_1, c4_b_0, c4_b_1, c4_q_0, c4_q_1, c4_r_0, c4_r_1, c4_p_0, c4_p_1, s4_a, s4_b, s4_q, s4_r, s4_p]), (by simp [go_sem, c4_a_0, c4_a_1, c4_b_0, c4_b_1, c4_q_0, c4_q_1, c4_r_0, c4_r_1, c4_p_0, c4_p_1, s4_a, s4_b, s4_q, s4_r, s4_p]), (by simp [go_sem, c4_a_0, c4_a_1, c4_b_0, c4_b_1, c4_q_0, c4_q_1, c4_r_0, c4_r_1, c4_p_0, c4_p_1, s4_a, s4_b, s4_q, s4_r, s4_p]), (by simp [go_sem, c4_a_0, c4_a_1, c4_b_0, c4_b_1, c4_q_0, c4_q_1, c4_r_0, c4_r_1, c4_p_0, c4_p_1, s4_a, s4_b, s4_q, s4_r, s4_p]), (by simp [go_sem, c4_a_0, c4_a_1, c4_b_0, c4_b_1, c4_q_0, c4_q_1, c4_r_0, c4_r_1, c4_p_0, c4_p_1, s4_a, s4_b, s4_q, s4_r, s4_p]), (by simp [go_sem, c4_a_0, c4_a_1, c4_b_0, c4_b_1, c4_q_0, c4_q_1, c4_r_0, c4_r_1, c4_p_0, c4_p_1, s4_a, s4_b, s4_q, s4_r, s4_p]), (by simp [go_sem, c4_a_0, c4_a_1, c4_b_0, c4_b_1, c4_q_0, c4_q_1, c4_r_0, c4_r_1, c4_p_0, c4_p_1, s4_a, s4_b, s4_q, s4_r, s4_p]), (by simp [go_sem]), (by simp [go_sem])⟩ (fun hHeld => ?_)
  refine pure_ (i := 0) (N := some 59) (v := ?_) (a' := ?_) #[true, false, false, false, false, false, false, false, false, false, false, false, false, false, false, false, false, false, false, false, false, false, false, false, false, false, false, false, false] rfl rfl (by kernel_rfl) (fun _ _ _ h => h) (Or.inl ⟨by rfl, ?_⟩) ?_ ?_
  rotate_left
  · intro w'
    go_simp
    with_reducible rfl
  rotate_left
  · simp only [Act.put, List.setIfInBounds_toArray, List.set_cons_zero, List.set_cons_succ, i64_w, i32_w]
    rfl
  refine pure_ (i := 1) (N := some 60) (v := ?_) (a' := ?_) #[true, true, false, false, false, false, false, false, false, false, false, false, false, false, false, false, false, false, false, false, false, false, false, false, false, false, false, false, false] rfl rfl (by kernel_rfl) (fun _ _ _ h => h) (Or.inl ⟨by rfl, ?_⟩) ?_ ?_
  rotate_left
  · intro w'
    go_simp
    with_reducible rfl
  rotate_left
  · simp only [Act.put, List.setIfInBounds_toArray, List.set_cons_zero, List.set_cons_succ, i64_w, i32_w]
    rfl
  refine pure_ (i := 2) (N := some 61) (v := ?_) (a' := ?_) #[true, true, true, false, false, false, false, false, false, false, false, false, false, false, false, false, false, false, false, false, false, false, false, false, false, false, false, false, false] rfl rfl (by kernel_rfl) (fun _ _ _ h => h) (Or.inl ⟨by rfl, ?_⟩) ?_ ?_
  rotate_left
  · intro w'
    go_simp
    with_reducible rfl
  rotate_left
  · simp only [Act.put, List.setIfInBounds_toArray, List.set_cons_zero, List.set_cons_succ, i64_w, i32_w]
    rfl
  refine pure_ (i := 3) (N := some 62) (v := ?_) (a' := ?_) #[true, true, true, true, false, false, false, false, false, false, false, false, false, false, false, false, false, false, false, false, false, false, false, false, false, false, false, false, false] rfl rfl (by kernel_rfl) (fun _ _ _ h => h) (Or.inl ⟨by rfl, ?_⟩) ?_ ?_
  rotate_left
  · intro w'
    go_simp
    with_reducible rfl
  rotate_left
  · simp only [Act.put, List.setIfInBounds_toArray, List.set_cons_zero, List.set_cons_succ, i64_w, i32_w]
    rfl
  refine pure_ (i := 4) (N := some 63) (v := ?_) (a' := ?_) #[true, true, true, true, true, false, false, false, false, false, false, false, false, false, false, false, false, false, false, false, false, false, false, false, false, false, false, false, false] rfl rfl (by kernel_rfl) (fun _ _ _ h => h) (Or.inl ⟨by rfl, ?_⟩) ?_ ?_
  rotate_left
  · intro w'
    go_simp
    with_reducible rfl
  rotate_left
  · simp only [Act.put, List.setIfInBounds_toArray, List.set_cons_zero, List.set_cons_succ, i64_w, i32_w]
    rfl
  refine pure_ (i := 5) (N := some 64) (v := ?_) (a' := ?_) #[true, true, true, true, true, true, false, false, false, false, false, false, false, false, false, false, false, false, false, false, false, false, false, false, false, false, false, false, false] rfl rfl (by kernel_rfl) (fun _ _ _ h => h) (Or.inl ⟨by rfl, ?_⟩) ?_ ?_
  rotate_left
  · intro w'
    go_simp
    with_reducible rfl
  rotate_left
  · simp only [Act.put, List.setIfInBounds_toArray, List.set_cons_zero, List.set_cons_succ, i64_w, i32_w]
    rfl
  refine pure_ (i := 6) (N := some 65) (v := ?_) (a' := ?_) #[true, true, true, true, true, true, true, false, false, false, false, false, false, false, false, false, false, false, false, false, false, false, false, false, false, false, false, false, false] rfl rfl (by kernel_rfl) (fun _ _ _ h => h) (Or.inl ⟨by rfl, ?_⟩) ?_ ?_
  rotate_left
  · intro w'
    go_simp
    with_reducible rfl
  rotate_left
  · simp only [Act.put, List.setIfInBounds_toArray, List.set_cons_zero, List.set_cons_succ, i64_w, i32_w]
    rfl
  refine take_ (i := 7) (N := some 66) (v := ?_) (a' := ?_) #[true, true, true, true, true, true, true, true, false, false, false, false, false, false, false, false, false, false, false, false, false, false, false, false, false, false, false, false, false] rfl rfl (by kernel_rfl) (fun _ _ _ h => h) (Or.inl ⟨by rfl, ?_⟩) hHeld ?_ ?_
  rotate_left
  · rintro w' ⟨s0, s1, s2, s3, s4, s5, s6, s7, s8, s9, s10, s11⟩
    go_simp
    with_reducible rfl
  rotate_left
  · simp only [Act.put, List.setIfInBounds_toArray, List.set_cons_zero, List.set_cons_succ, i64_w, i32_w]
    rfl
  refine take_ (i := 8) (N := some 67) (v := ?_) (a' := ?_) #[true, true, true, true, true, true, true, true, true, false, false, false, false, false, false, false, false, false, false, false, false, false, false, false, false, false, false, false, false] rfl rfl (by kernel_rfl) (fun _ _ _ h => h) (Or.inl ⟨by rfl, ?_⟩) hHeld ?_ ?_
  rotate_left
  · rintro w' ⟨s0, s1, s2, s3, s4, s5, s6, s7, s8, s9, s10, s11⟩
    go_simp
    with_reducible rfl
  rotate_left
  · simp only [Act.put, List.setIfInBounds_toArray, List.set_cons_zero, List.set_cons_succ, i64_w, i32_w]
    rfl
  refine pure_ (i := 9) (N := some 68) (v := ?_) (a' := ?_) #[true, true, true, true, true, true, true, true, true, true, false, false, false, false, false, false, false, false, false, false, false, false, false, false, false, false, false, false, false] rfl rfl (by kernel_rfl) (fun _ _ _ h => h) (Or.inl ⟨by rfl, ?_⟩) ?_ ?_
  rotate_left
  · intro w'
    go_simp
    with_reducible rfl
  rotate_left
  · simp only [Act.put, List.setIfInBounds_toArray, List.set_cons_zero, List.set_cons_succ, i64_w, i32_w]
    rfl
  refine pure_ (i := 10) (N := some 69) (v := ?_) (a' := ?_) #[true, true, true, true, true, true, true, true, true, true, true, false, false, false, false, false, false, false, false, false, false, false, false, false, false, false, false, false, false] rfl rfl (by kernel_rfl) (fun _ _ _ h => h) (Or.inl ⟨by rfl, ?_⟩) ?_ ?_
  rotate_left
  · intro w'
    go_simp
    with_reducible rfl
  rotate_left
  · simp only [Act.put, List.setIfInBounds_toArray, List.set_cons_zero, List.set_cons_succ, i64_w, i32_w]
    rfl
  refine pure_ (i := 11) (N := some 70) (v := ?_) (a' := ?_) #[true, true, true, true, true, true, true, true, true, true, true, true, false, false, false, false, false, false, false, false, false, false, false, false, false, false, false, false, false] rfl rfl (by kernel_rfl) (fun _ _ _ h => h) (Or.inl ⟨by rfl, ?_⟩) ?_ ?_
  rotate_left
  · intro w'
    go_simp
    with_reducible rfl
  rotate_left
  · simp only [Act.put, List.setIfInBounds_toArray, List.set_cons_zero, List.set_cons_succ, i64_w, i32_w]
    rfl
  refine take_ (i := 12) (N := some 71) (v := ?_) (a' := ?_) #[true, true, true, true, true, true, true, true, true, true, true, true, true, false, false, false, false, false, false, false, false, false, false, false, false, false, false, false, false] rfl rfl (by kernel_rfl) (fun _ _ _ h => h) (Or.inl ⟨by rfl, ?_⟩) hHeld ?_ ?_
  rotate_left
  · rintro w' ⟨s0, s1, s2, s3, s4, s5, s6, s7, s8, s9, s10, s11⟩
    go_simp
    with_reducible rfl
  rotate_left
  · simp only [Act.put, List.setIfInBounds_toArray, List.set_cons_zero, List.set_cons_succ, i64_w, i32_w]
    rfl
  refine take_ (i := 13) (N := some 72) (v := ?_) (a' := ?_) #[true, true, true, true, true, true, true, true, true, true, true, true, true, true, false, false, false, false, false, false, false, false, false, false, false, false, false, false, false] rfl rfl (by kernel_rfl) (fun _ _ _ h => h) (Or.inl ⟨by rfl, ?_⟩) hHeld ?_ ?_
  rotate_left
  · rintro w' ⟨s0, s1, s2, s3, s4, s5, s6, s7, s8, s9, s10, s11⟩
    go_simp
    with_reducible rfl
  rotate_left
  · simp only [Act.put, List.setIfInBounds_toArray, List.set_cons_zero, List.set_cons_succ, i64_w, i32_w]
    rfl
  refine one_ (i := 14) (N := some 73) #[true, true, true, true, true, true, true, true, true, true, true, true, true, true, true, false, false, false, false, false, false, false, false, false, false, false, false, false, false] rfl rfl (by kernel_rfl) (by decide) (fun K hK => ?_)
  refine goes_ Try.func23 (by kernel_rfl) rfl #[.agg #[.int .i64 r1, .int .u64 r2], .agg #[.int .i64 a1_0, .int .u64 a1_1]] (by rfl) rfl rfl (by simp only [List.map_toArray, List.map_cons, List.map_nil]; rfl) ?_
  with_reducible refine ((HN _).out).mono ?_
  rintro e wr_0 ⟨rfl, hbr_0⟩
  refine ⟨_, rfl, ?_⟩
  obtain ⟨hh0, hh1, hh2, hh3, hh4, hh5, hh6, hh7, hh8, hh9, hh10, hh11⟩ := hHeld
  refine hK.out _ _ ⟨keepc hbr_0 (by assumption), keepc hbr_0 (by assumption), keepc hbr_0 (by assumption), keepc hbr_0 (by assumption), keepc hbr_0 (by assumption), keepc hbr_0 (by assumption), keepc hbr_0 (by assumption), keepc hbr_0 (by assumption), keepc hbr_0 (by assumption), keepc hbr_0 (by assumption), keepc hbr_0 (by assumption), keepc hbr_0 (by assumption)⟩ (fun hHeld => ?_)
  clear hK K
  refine norm_ (a' := ?_) ?_ ?_
  rotate_left
  · show Act.put _ (some 73) _ = _
    simp only [Act.put, List.setIfInBounds_toArray, List.set_cons_zero, List.set_cons_succ, i64_w, i32_w]
    rfl
  refine pure_ (i := 15) (N := some 74) (v := ?_) (a' := ?_) #[true, true, true, true, true, true, true, true, true, true, true, true, true, true, true, true, false, false, false, false, false, false, false, false, false, false, false, false, false] rfl rfl (by kernel_rfl) (fun _ _ _ h => h) (Or.inl ⟨by rfl, ?_⟩) ?_ ?_
  rotate_left
  · intro w'
    go_simp
    with_reducible rfl
  rotate_left
  · simp only [Act.put, List.setIfInBounds_toArray, List.set_cons_zero, List.set_cons_succ, i64_w, i32_w]
    rfl
  refine pure_ (i := 16) (N := some 75) (v := ?_) (a' := ?_) #[true, true, true, true, true, true, true, true, true, true, true, true, true, true, true, true, true, false, false, false, false, false, false, false, false, false, false, false, false] rfl rfl (by kernel_rfl) (fun _ _ _ h => h) (Or.inl ⟨by rfl, ?_⟩) ?_ ?_
  rotate_left
  · intro w'
    go_simp
    with_reducible rfl
  rotate_left
  · simp only [Act.put, List.setIfInBounds_toArray, List.set_cons_zero, List.set_cons_succ, i64_w, i32_w]
    rfl
  refine take_ (i := 17) (N := some 76) (v := ?_) (a' := ?_) #[true, true, true, true, true, true, true, true, true, true, true, true, true, true, true, true, true, true, false, false, false, false, false, false, false, false, false, false, false] rfl rfl (by kernel_rfl) (fun _ _ _ h => h) (Or.inl ⟨by rfl, ?_⟩) hHeld ?_ ?_
  rotate_left
  · rintro w' ⟨s0, s1, s2, s3, s4, s5, s6, s7, s8, s9, s10, s11⟩
    go_simp
    with_reducible rfl
  rotate_left
  · simp only [Act.put, List.setIfInBounds_toArray, List.set_cons_zero, List.set_cons_succ, i64_w, i32_w]
    rfl
  refine one_ (i := 18) (N := some 77) #[true, true, true, true, true, true, true, true, true, true, true, true, true, true, true, true, true, true, true, false, false, false, false, false, false, false, false, false, false] rfl rfl (by kernel_rfl) (by decide) (fun K hK => ?_)
  refine goes_ Try.func22 (by kernel_rfl) rfl #[.agg #[.int .i64 r1, .int .u64 r2]] (by rfl) rfl rfl (by simp only [List.map_toArray, List.map_cons, List.map_nil]; rfl) ?_
  with_reducible refine ((HS _).out).mono ?_
  rintro e wr_1 ⟨rfl, hbr_1⟩
  refine ⟨_, rfl, ?_⟩
  obtain ⟨hh0, hh1, hh2, hh3, hh4, hh5, hh6, hh7, hh8, hh9, hh10, hh11⟩ := hHeld
  refine hK.out _ _ ⟨keepc hbr_1 (by assumption), keepc hbr_1 (by assumption), keepc hbr_1 (by assumption), keepc hbr_1 (by assumption), keepc hbr_1 (by assumption), keepc hbr_1 (by assumption), keepc hbr_1 (by assumption), keepc hbr_1 (by assumption), keepc hbr_1 (by assumption), keepc hbr_1 (by assumption), keepc hbr_1 (by assumption), keepc hbr_1 (by assumption)⟩ (fun hHeld => ?_)
  clear hK K
  refine norm_ (a' := ?_) ?_ ?_
  rotate_left
  · show Act.put _ (some 77) _ = _
    simp only [Act.put, List.setIfInBounds_toArray, List.set_cons_zero, List.set_cons_succ, i64_w, i32_w]
    rfl
  refine pure_ (i := 19) (N := some 78) (v := ?_) (a' := ?_) #[true, true, true, true, true, true, true, true, true, true, true, true, true, true, true, true, true, true, true, true, false, false, false, false, false, false, false, false, false] rfl rfl (by kernel_rfl) (fun _ _ _ h => h) (Or.inl ⟨by rfl, ?_⟩) ?_ ?_
  rotate_left
  · intro w'
    go_simp
    with_reducible rfl
  rotate_left
  · simp only [Act.put, List.setIfInBounds_toArray, List.set_cons_zero, List.set_cons_succ, i64_w, i32_w]
    rfl
  refine pure_ (i := 20) (N := some 79) (v := ?_) (a' := ?_) #[true, true, true, true, true, true, true, true, true, true, true, true, true, true, true, true, true, true, true, true, true, false, false, false, false, false, false, false, false] rfl rfl (by kernel_rfl) (fun _ _ _ h => h) (Or.inl ⟨by rfl, ?_⟩) ?_ ?_
  rotate_left
  · intro w'
    go_simp
    with_reducible rfl
  rotate_left
  · simp only [Act.put, List.setIfInBounds_toArray, List.set_cons_zero, List.set_cons_succ, i64_w, i32_w]
    rfl
  refine take_ (i := 21) (N := some 80) (v := ?_) (a' := ?_) #[true, true, true, true, true, true, true, true, true, true, true, true, true, true, true, true, true, true, true, true, true, true, false, false, false, false, false, false, false] rfl rfl (by kernel_rfl) (fun _ _ _ h => h) (Or.inl ⟨by rfl, ?_⟩) hHeld ?_ ?_
  rotate_left
  · rintro w' ⟨s0, s1, s2, s3, s4, s5, s6, s7, s8, s9, s10, s11⟩
    go_simp
    with_reducible rfl
  rotate_left
  · simp only [Act.put, List.setIfInBounds_toArray, List.set_cons_zero, List.set_cons_succ, i64_w, i32_w]
    rfl
  refine take_ (i := 23) (N := some 82) (v := ?_) (a' := ?_) #[true, true, true, true, true, true, true, true, true, true, true, true, true, true, true, true, true, true, true, true, true, true, false, true, false, false, false, false, false] rfl rfl (by kernel_rfl) (fun _ _ _ h => h) (Or.inl ⟨by rfl, ?_⟩) hHeld ?_ ?_
  rotate_left
  · rintro w' ⟨s0, s1, s2, s3, s4, s5, s6, s7, s8, s9, s10, s11⟩
    go_simp
    with_reducible rfl
  rotate_left
  · simp only [Act.put, List.setIfInBounds_toArray, List.set_cons_zero, List.set_cons_succ, i64_w, i32_w]
    rfl
  refine one_ (i := 22) (N := some 81) #[true, true, true, true, true, true, true, true, true, true, true, true, true, true, true, true, true, true, true, true, true, true, true, true, false, false, false, false, false] rfl rfl (by kernel_rfl) (by decide) (fun K hK => ?_)
  refine goes_ Try.func22 (by kernel_rfl) rfl #[.agg #[.int .i64 r1, .int .u64 r2]] (by rfl) rfl rfl (by simp only [List.map_toArray, List.map_cons, List.map_nil]; rfl) ?_
  with_reducible refine ((HS _).out).mono ?_
  rintro e wr_2 ⟨rfl, hbr_2⟩
  refine ⟨_, rfl, ?_⟩
  obtain ⟨hh0, hh1, hh2, hh3, hh4, hh5, hh6, hh7, hh8, hh9, hh10, hh11⟩ := hHeld
  refine hK.out _ _ ⟨keepc hbr_2 (by assumption), keepc hbr_2 (by assumption), keepc hbr_2 (by assumption), keepc hbr_2 (by assumption), keepc hbr_2 (by assumption), keepc hbr_2 (by assumption), keepc hbr_2 (by assumption), keepc hbr_2 (by assumption), keepc hbr_2 (by assumption), keepc hbr_2 (by assumption), keepc hbr_2 (by assumption), keepc hbr_2 (by assumption)⟩ (fun hHeld => ?_)
  clear hK K
  refine norm_ (a' := ?_) ?_ ?_
  rotate_left
  · show Act.put _ (some 81) _ = _
    simp only [Act.put, List.setIfInBounds_toArray, List.set_cons_zero, List.set_cons_succ, i64_w, i32_w]
    rfl
  refine one_ (i := 24) (N := some 83) #[true, true, true, true, true, true, true, true, true, true, true, true, true, true, true, true, true, true, true, true, true, true, true, true, true, false, false, false, false] rfl rfl (by kernel_rfl) (by decide) (fun K hK => ?_)
  refine goes_ Try.func22 (by kernel_rfl) rfl #[.agg #[.int .i64 a0_0, .int .u64 a0_1]] (by rfl) rfl rfl (by simp only [List.map_toArray, List.map_cons, List.map_nil]; rfl) ?_
  with_reducible refine ((HS2 _).out).mono ?_
  rintro e wr ⟨rfl, hbr⟩
  refine ⟨_, rfl, ?_⟩
  obtain ⟨hh0, hh1, hh2, hh3, hh4, hh5, hh6, hh7, hh8, hh9, hh10, hh11⟩ := hHeld
  refine hK.out _ _ ⟨keepc hbr (by assumption), keepc hbr (by assumption), keepc hbr (by assumption), keepc hbr (by assumption), keepc hbr (by assumption), keepc hbr (by assumption), keepc hbr (by assumption), keepc hbr (by assumption), keepc hbr (by assumption), keepc hbr (by assumption), keepc hbr (by assumption), keepc hbr (by assumption)⟩ (fun hHeld => ?_)
  clear hK K
  refine norm_ (a' := ?_) ?_ ?_
  rotate_left
  · show Act.put _ (some 83) _ = _
    simp only [Act.put, List.setIfInBounds_toArray, List.set_cons_zero, List.set_cons_succ, i64_w, i32_w]
    rfl
  refine pure_ (i := 25) (N := some 84) (v := ?_) (a' := ?_) #[true, true, true, true, true, true, true, true, true, true, true, true, true, true, true, true, true, true, true, true, true, true, true, true, true, true, false, false, false] rfl rfl (by kernel_rfl) (fun _ _ _ h => h) (Or.inl ⟨by rfl, ?_⟩) ?_ ?_
  rotate_left
  · intro w'
    go_simp
    with_reducible rfl
  rotate_left
  · simp only [Act.put, List.setIfInBounds_toArray, List.set_cons_zero, List.set_cons_succ, i64_w, i32_w]
    rfl
  refine pure_ (i := 26) (N := some 85) (v := ?_) (a' := ?_) #[true, true, true, true, true, true, true, true, true, true, true, true, true, true, true, true, true, true, true, true, true, true, true, true, true, true, true, false, false] rfl rfl (by kernel_rfl) (fun _ _ _ h => h) (Or.inl ⟨by rfl, ?_⟩) ?_ ?_
  rotate_left
  · intro w'
    go_simp
    with_reducible rfl
  rotate_left
  · simp only [Act.put, List.setIfInBounds_toArray, List.set_cons_zero, List.set_cons_succ, i64_w, i32_w]
    rfl
  refine pure_ (i := 27) (N := some 86) (v := ?_) (a' := ?_) #[true, true, true, true, true, true, true, true, true, true, true, true, true, true, true, true, true, true, true, true, true, true, true, true, true, true, true, true, false] rfl rfl (by kernel_rfl) (fun _ _ _ h => h) (Or.inl ⟨by rfl, ?_⟩) ?_ ?_
  rotate_left
  · intro w'
    go_simp
    with_reducible rfl
  rotate_left
  · simp only [Act.put, List.setIfInBounds_toArray, List.set_cons_zero, List.set_cons_succ, i64_w, i32_w]
    rfl
  refine pure_ (i := 28) (N := some 4) (v := ?_) (a' := ?_) #[true, true, true, true, true, true, true, true, true, true, true, true, true, true, true, true, true, true, true, true, true, true, true, true, true, true, true, true, true] rfl rfl (by kernel_rfl) (fun _ _ _ h => h) (Or.inl ⟨by rfl, ?_⟩) ?_ ?_
  rotate_left
  · intro w'
    go_simp
    with_reducible rfl
  rotate_left
  · simp only [Act.put, List.setIfInBounds_toArray, List.set_cons_zero, List.set_cons_succ, i64_w, i32_w]
    rfl
  refine done_ (by kernel_rfl) ?_
  all_goals go_wp2_with fail
  all_goals (go_ret; exact ⟨rfl, by repeat (with_reducible first | apply pw_below_drewN | apply below_drew1 | apply below_alloc | exact Below.refl _ _ | (refine below_set ?_ (by first | omega | (simp; omega))) | (refine below_next ?_ (by assumption)))⟩)
def TimesBack.f (a0_0 a0_1 a1_0 a1_1 : Int) : Option Bool := if WB a0_0 a0_1 ∧ WB a1_0 a1_1 then some true else none
theorem TimesBack.calls (a0_0 a0_1 a1_0 a1_1 : Int) (r : Bool) (w : World) (h : TimesBack.f a0_0 a0_1 a1_0 a1_1 = some r) :
    Calls Try.prog 8 #[.agg #[.int .i64 a0_0, .int .u64 a0_1], .agg #[.int .i64 a1_0, .int .u64 a1_1]] w fun e w' => e = .returned (.bool r) ∧ Below w.heap.size w w' := by
  unfold TimesBack.f at h
  split at h
  · rename_i hb
    obtain rfl := Option.some.inj h
    obtain ⟨ha, hb⟩ := hb
    have hQ := QuoRem_f ha hb
    unfold qans at hQ
    by_cases h0 : wv a1_0 a1_1 = 0
    · rw [if_pos h0] at hQ
      exact TimesBack_w0 _ _ _ _ w hQ (by rw [Sign_f hb, h0]; rfl)
    rw [if_neg h0] at hQ
    by_cases h1 : wv a0_0 a0_1 = -170141183460469231731687303715884105728 ∧ wv a1_0 a1_1 = -1
    · obtain ⟨e1, e2, e3, e4⟩ : a0_0 = -9223372036854775808 ∧ a0_1 = 0 ∧ a1_0 = -1 ∧ a1_1 = 18446744073709551615 := by
        unfold WB at ha hb
        unfold wv at h1
        omega
      rw [e1, e2, e3, e4]
      exact TimesBack_w1 w
    rw [if_neg h1] at hQ
    obtain ⟨iq, ir, hl⟩ := quo_range (wv_in ha) (wv_in hb) h0 h1
    have ed := Int.mul_tdiv_add_tmod (wv a0_0 a0_1) (wv a1_0 a1_1)
    rw [Int.mul_comm] at ed
    have ht := tmod_wabs (wv a0_0 a0_1) (wv a1_0 a1_1)
    have ia := wv_in ha
    have r0 := Int.emod_nonneg (wabs (wv a0_0 a0_1)) (show wabs (wv a1_0 a1_1) ≠ 0 by unfold wabs; split <;> omega)
    have r2 : wabs (wv a0_0 a0_1) % wabs (wv a1_0 a1_1) ≤ wabs (wv a0_0 a0_1) := by
      have h2 : 0 ≤ wabs (wv a0_0 a0_1) := by unfold wabs; split <;> omega
      have h3 : 0 ≤ wabs (wv a1_0 a1_1) := by unfold wabs; split <;> omega
      have h4 := Int.emod_add_mul_ediv (wabs (wv a0_0 a0_1)) (wabs (wv a1_0 a1_1))
      have h5 : 0 ≤ wabs (wv a1_0 a1_1) * (wabs (wv a0_0 a0_1) / wabs (wv a1_0 a1_1)) := Int.mul_nonneg h3 (Int.ediv_nonneg h2 h3)
      omega
    have hm : (-170141183460469231731687303715884105728 ≤ Int.tdiv (wv a0_0 a0_1) (wv a1_0 a1_1) * wv a1_0 a1_1 ∧ Int.tdiv (wv a0_0 a0_1) (wv a1_0 a1_1) * wv a1_0 a1_1 ≤ 170141183460469231731687303715884105727) := by
      have e6 : wabs (wv a0_0 a0_1) = if wv a0_0 a0_1 < 0 then -wv a0_0 a0_1 else wv a0_0 a0_1 := rfl
      by_cases h7 : wv a0_0 a0_1 < 0
      · rw [if_pos h7] at e6
        rw [if_pos (decide_eq_true h7)] at ht
        omega
      · rw [if_neg h7] at e6
        rw [if_neg (by simp [h7])] at ht
        omega
    have hM := Mul_f (WB_split iq) hb
    rw [wv_of, wans_in hm] at hM
    have hD := Add_f (WB_split hm) (WB_split ir)
    rw [wv_of, wv_of, ed, wans_wv ha] at hD
    have hN := nearer_f (WB_split ir) hb
    rw [wv_of, decide_eq_true hl] at hN
    have hS := Sign_f (WB_split ir)
    rw [wv_of] at hS
    have hz : wv a0_0 a0_1 = 0 → wabs (wv a0_0 a0_1) = 0 := fun h => by rw [h]; rfl
    by_cases hx : sgnv (Int.tmod (wv a0_0 a0_1) (wv a1_0 a1_1)) = 0
    · exact TimesBack_w2 _ _ _ _ _ _ _ _ _ _ w hQ hM hD hN _ hS (beq_iff_eq.2 hx)
    · refine TimesBack_w3 _ _ _ _ _ _ _ _ _ _ w hQ hM hD hN _ hS (beq_eq_false_iff_ne.2 hx) _ (Sign_f ha) (beq_iff_eq.2 ?_)
      rcases sgnv_cases (Int.tmod (wv a0_0 a0_1) (wv a1_0 a1_1)) with ⟨c, e⟩ | ⟨c, e⟩ | ⟨c, e⟩ <;> rcases sgnv_cases (wv a0_0 a0_1) with ⟨d, f⟩ | ⟨d, f⟩ | ⟨d, f⟩ <;> rw [e, f] <;> first | rfl | (exfalso; exact hx e) | (exfalso; split at ht <;> rename_i hs <;> simp only [decide_eq_true_eq] at hs <;> omega)
  · cases h
end Go.Proofs.Ytieeaicdpdidpaa.TF
