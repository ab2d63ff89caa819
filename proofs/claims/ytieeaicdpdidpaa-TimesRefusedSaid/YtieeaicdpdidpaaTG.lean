/-
  Contracts of package times' away and Div: what each answers, as one number of 128 bits. No condition but that words are words (else the printed function is none).
-/
import Derived.Test.YtieeaicdpdidpaaTF
import Derived.Deep.RegionWith
namespace Go.Proofs.Ytieeaicdpdidpaa.TF
open Go.RowKit Go.Proofs.YtieeaicdpdidpaaW.PrintWords
open WF
set_option linter.unusedVariables false
set_option linter.unusedSimpArgs false
attribute [local go_sem] run_add64 run_sub64
attribute [local go_sem high] eqW
set_option maxHeartbeats 4000000 in
set_option maxRecDepth 100000 in
theorem away_w0 (a0_0 a0_1 a1_0 a1_1 a2_0 a2_1 : Int) (w : World) (x y : Bool) (hx : decide (a1_0 < 0) = x) (hy : decide (a2_0 < 0) = y) :
    Calls Try.prog 37 #[.agg #[.int .i64 a0_0, .int .u64 a0_1], .agg #[.int .i64 a1_0, .int .u64 a1_1], .agg #[.int .i64 a2_0, .int .u64 a2_1], .int .i64 0] w fun e w' => e = .returned (.bool (decide (a1_0 < 0) != decide (a2_0 < 0))) ∧ Below w.heap.size w w' := by
  rw [hx, hy]
  cases x <;> cases y
  all_goals
  · go_enter Try.func37, Try.ntmps37
    go_wp2
    go_ret
    exact ⟨rfl, by repeat (with_reducible first | apply pw_below_drewN | apply below_drew1 | apply below_alloc | exact Below.refl _ _ | (refine below_set ?_ (by first | omega | (simp; omega))) | (refine below_next ?_ (by assumption)))⟩
set_option maxHeartbeats 4000000 in
set_option maxRecDepth 100000 in
theorem away_w1 (a0_0 a0_1 a1_0 a1_1 a2_0 a2_1 : Int) (w : World) (x y : Bool) (hx : decide (a1_0 < 0) = x) (hy : decide (a2_0 < 0) = y) :
    Calls Try.prog 37 #[.agg #[.int .i64 a0_0, .int .u64 a0_1], .agg #[.int .i64 a1_0, .int .u64 a1_1], .agg #[.int .i64 a2_0, .int .u64 a2_1], .int .i64 1] w fun e w' => e = .returned (.bool (!(decide (a1_0 < 0) != decide (a2_0 < 0)))) ∧ Below w.heap.size w w' := by
  rw [hx, hy]
  cases x <;> cases y
  all_goals
  · go_enter Try.func37, Try.ntmps37
    go_wp2
    go_ret
    exact ⟨rfl, by repeat (with_reducible first | apply pw_below_drewN | apply below_drew1 | apply below_alloc | exact Below.refl _ _ | (refine below_set ?_ (by first | omega | (simp; omega))) | (refine below_next ?_ (by assumption)))⟩
set_option maxHeartbeats 4000000 in
set_option maxRecDepth 100000 in
theorem away_w2 (a0_0 a0_1 a1_0 a1_1 a2_0 a2_1 : Int) (w : World) (x y : Bool) (hx : decide (a1_0 < 0) = x) (hy : decide (a2_0 < 0) = y) :
    Calls Try.prog 37 #[.agg #[.int .i64 a0_0, .int .u64 a0_1], .agg #[.int .i64 a1_0, .int .u64 a1_1], .agg #[.int .i64 a2_0, .int .u64 a2_1], .int .i64 2] w fun e w' => e = .returned (.bool (false)) ∧ Below w.heap.size w w' := by
  cases x <;> cases y
  all_goals
  · go_enter Try.func37, Try.ntmps37
    go_wp2
    go_ret
    exact ⟨rfl, by repeat (with_reducible first | apply pw_below_drewN | apply below_drew1 | apply below_alloc | exact Below.refl _ _ | (refine below_set ?_ (by first | omega | (simp; omega))) | (refine below_next ?_ (by assumption)))⟩
set_option maxHeartbeats 4000000 in
set_option maxRecDepth 100000 in
theorem away_wA (a0_0 a0_1 a1_0 a1_1 a2_0 a2_1 m rh rl bh bl : Int) (w : World) (hA : WF.Abs.f a1_0 a1_1 = some (rh, rl)) (hB : WF.Abs.f a2_0 a2_1 = some (bh, bl)) (m0 : (m == 0) = false) (m1 : (m == 1) = false) (m2 : (m == 2) = false) (cc : decide (sub64Hi bl rl 0 ≤ 1) = true) (x : decide ((sub64Lo bh rh (sub64Hi bl rl 0)) < rh) = true) :
    Calls Try.prog 37 #[.agg #[.int .i64 a0_0, .int .u64 a0_1], .agg #[.int .i64 a1_0, .int .u64 a1_1], .agg #[.int .i64 a2_0, .int .u64 a2_1], .int .i64 m] w fun e w' => e = .returned (.bool true) ∧ Below w.heap.size w w' := by
  have HA := fun W => Lib.hid (WF.Abs.calls _ _ _ _ W hA)
  have HB := fun W => Lib.hid (WF.Abs.calls _ _ _ _ W hB)
  clear hA hB
  go_enter Try.func37, Try.ntmps37
  go_wp2_with fail
  refine ((HA _).out).mono ?_
  rintro e w1 ⟨rfl, hb1⟩
  obtain ⟨hc1, hf1⟩ := bcell hb1
  have z1 : w.heap.size + 2 < w1.heap.size := (by have := hb1.size; (try simp at this); omega)
  have s1_0 : w.heap.size < w1.heap.size := (by omega)
  have s1_1 : w.heap.size + 1 < w1.heap.size := (by omega)
  have s1_2 : w.heap.size + 1 + 1 < w1.heap.size := (by omega)
  have p1_0_0 : w1.cell? ⟨w.heap.size, 0, none⟩ = some (.int .i64 a0_0) := (by rw [hc1 _ _ (by first | omega | (simp; done) | (simp; omega))]; simp [go_sem])
  have p1_0_1 : w1.cell? ⟨w.heap.size, 1, none⟩ = some (.int .u64 a0_1) := (by rw [hc1 _ _ (by first | omega | (simp; done) | (simp; omega))]; simp [go_sem])
  have p1_1_0 : w1.cell? ⟨w.heap.size + 1, 0, none⟩ = some (.int .i64 a1_0) := (by rw [hc1 _ _ (by first | omega | (simp; done) | (simp; omega))]; simp [go_sem])
  have p1_1_1 : w1.cell? ⟨w.heap.size + 1, 1, none⟩ = some (.int .u64 a1_1) := (by rw [hc1 _ _ (by first | omega | (simp; done) | (simp; omega))]; simp [go_sem])
  have p1_2_0 : w1.cell? ⟨w.heap.size + 1 + 1, 0, none⟩ = some (.int .i64 a2_0) := (by rw [hc1 _ _ (by first | omega | (simp; done) | (simp; omega))]; simp [go_sem])
  have p1_2_1 : w1.cell? ⟨w.heap.size + 1 + 1, 1, none⟩ = some (.int .u64 a2_1) := (by rw [hc1 _ _ (by first | omega | (simp; done) | (simp; omega))]; simp [go_sem])
  go_wp2_with fail
  refine ((HB _).out).mono ?_
  rintro e w2 ⟨rfl, hb2⟩
  obtain ⟨hc2, hf2⟩ := bcell hb2
  have z2 : w.heap.size + 2 < w2.heap.size := (by have := hb2.size; (try simp at this); omega)
  have s2_0 : w.heap.size < w2.heap.size := (by omega)
  have s2_1 : w.heap.size + 1 < w2.heap.size := (by omega)
  have s2_2 : w.heap.size + 1 + 1 < w2.heap.size := (by omega)
  have p2_0_0 : w2.cell? ⟨w.heap.size, 0, none⟩ = some (.int .i64 a0_0) := (by rw [hc2 _ _ (by first | omega | (simp; done) | (simp; omega))]; simp [go_sem, p1_0_0, s1_0, s1_1, s1_2])
  have p2_0_1 : w2.cell? ⟨w.heap.size, 1, none⟩ = some (.int .u64 a0_1) := (by rw [hc2 _ _ (by first | omega | (simp; done) | (simp; omega))]; simp [go_sem, p1_0_1, s1_0, s1_1, s1_2])
  have p2_1_0 : w2.cell? ⟨w.heap.size + 1, 0, none⟩ = some (.int .i64 a1_0) := (by rw [hc2 _ _ (by first | omega | (simp; done) | (simp; omega))]; simp [go_sem, p1_1_0, s1_0, s1_1, s1_2])
  have p2_1_1 : w2.cell? ⟨w.heap.size + 1, 1, none⟩ = some (.int .u64 a1_1) := (by rw [hc2 _ _ (by first | omega | (simp; done) | (simp; omega))]; simp [go_sem, p1_1_1, s1_0, s1_1, s1_2])
  have p2_2_0 : w2.cell? ⟨w.heap.size + 1 + 1, 0, none⟩ = some (.int .i64 a2_0) := (by rw [hc2 _ _ (by first | omega | (simp; done) | (simp; omega))]; simp [go_sem, p1_2_0, s1_0, s1_1, s1_2])
  have p2_2_1 : w2.cell? ⟨w.heap.size + 1 + 1, 1, none⟩ = some (.int .u64 a2_1) := (by rw [hc2 _ _ (by first | omega | (simp; done) | (simp; omega))]; simp [go_sem, p1_2_1, s1_0, s1_1, s1_2])
  go_wp2_with fail
  first | go_ret | (go_quiet (fail); go_wp2_with fail; go_ret)
  exact ⟨rfl, by repeat (with_reducible first | apply pw_below_drewN | apply below_drew1 | apply below_alloc | exact Below.refl _ _ | (refine below_set ?_ (by first | omega | (simp; omega))) | (refine below_next ?_ (by assumption)))⟩
set_option maxHeartbeats 4000000 in
set_option maxRecDepth 100000 in
theorem away_wB (a0_0 a0_1 a1_0 a1_1 a2_0 a2_1 m rh rl bh bl : Int) (w : World) (hA : WF.Abs.f a1_0 a1_1 = some (rh, rl)) (hB : WF.Abs.f a2_0 a2_1 = some (bh, bl)) (m0 : (m == 0) = false) (m1 : (m == 1) = false) (m2 : (m == 2) = false) (cc : decide (sub64Hi bl rl 0 ≤ 1) = true) (x : decide ((sub64Lo bh rh (sub64Hi bl rl 0)) < rh) = false) (y : (rh == (sub64Lo bh rh (sub64Hi bl rl 0))) = true) (z : decide ((sub64Lo bl rl 0) < rl) = true) :
    Calls Try.prog 37 #[.agg #[.int .i64 a0_0, .int .u64 a0_1], .agg #[.int .i64 a1_0, .int .u64 a1_1], .agg #[.int .i64 a2_0, .int .u64 a2_1], .int .i64 m] w fun e w' => e = .returned (.bool true) ∧ Below w.heap.size w w' := by
  have HA := fun W => Lib.hid (WF.Abs.calls _ _ _ _ W hA)
  have HB := fun W => Lib.hid (WF.Abs.calls _ _ _ _ W hB)
  clear hA hB
  go_enter Try.func37, Try.ntmps37
  go_wp2_with fail
  refine ((HA _).out).mono ?_
  rintro e w1 ⟨rfl, hb1⟩
  obtain ⟨hc1, hf1⟩ := bcell hb1
  have z1 : w.heap.size + 2 < w1.heap.size := (by have := hb1.size; (try simp at this); omega)
  have s1_0 : w.heap.size < w1.heap.size := (by omega)
  have s1_1 : w.heap.size + 1 < w1.heap.size := (by omega)
  have s1_2 : w.heap.size + 1 + 1 < w1.heap.size := (by omega)
  have p1_0_0 : w1.cell? ⟨w.heap.size, 0, none⟩ = some (.int .i64 a0_0) := (by rw [hc1 _ _ (by first | omega | (simp; done) | (simp; omega))]; simp [go_sem])
  have p1_0_1 : w1.cell? ⟨w.heap.size, 1, none⟩ = some (.int .u64 a0_1) := (by rw [hc1 _ _ (by first | omega | (simp; done) | (simp; omega))]; simp [go_sem])
  have p1_1_0 : w1.cell? ⟨w.heap.size + 1, 0, none⟩ = some (.int .i64 a1_0) := (by rw [hc1 _ _ (by first | omega | (simp; done) | (simp; omega))]; simp [go_sem])
  have p1_1_1 : w1.cell? ⟨w.heap.size + 1, 1, none⟩ = some (.int .u64 a1_1) := (by rw [hc1 _ _ (by first | omega | (simp; done) | (simp; omega))]; simp [go_sem])
  have p1_2_0 : w1.cell? ⟨w.heap.size + 1 + 1, 0, none⟩ = some (.int .i64 a2_0) := (by rw [hc1 _ _ (by first | omega | (simp; done) | (simp; omega))]; simp [go_sem])
  have p1_2_1 : w1.cell? ⟨w.heap.size + 1 + 1, 1, none⟩ = some (.int .u64 a2_1) := (by rw [hc1 _ _ (by first | omega | (simp; done) | (simp; omega))]; simp [go_sem])
  go_wp2_with fail
  refine ((HB _).out).mono ?_
  rintro e w2 ⟨rfl, hb2⟩
  obtain ⟨hc2, hf2⟩ := bcell hb2
  have z2 : w.heap.size + 2 < w2.heap.size := (by have := hb2.size; (try simp at this); omega)
  have s2_0 : w.heap.size < w2.heap.size := (by omega)
  have s2_1 : w.heap.size + 1 < w2.heap.size := (by omega)
  have s2_2 : w.heap.size + 1 + 1 < w2.heap.size := (by omega)
  have p2_0_0 : w2.cell? ⟨w.heap.size, 0, none⟩ = some (.int .i64 a0_0) := (by rw [hc2 _ _ (by first | omega | (simp; done) | (simp; omega))]; simp [go_sem, p1_0_0, s1_0, s1_1, s1_2])
  have p2_0_1 : w2.cell? ⟨w.heap.size, 1, none⟩ = some (.int .u64 a0_1) := (by rw [hc2 _ _ (by first | omega | (simp; done) | (simp; omega))]; simp [go_sem, p1_0_1, s1_0, s1_1, s1_2])
  have p2_1_0 : w2.cell? ⟨w.heap.size + 1, 0, none⟩ = some (.int .i64 a1_0) := (by rw [hc2 _ _ (by first | omega | (simp; done) | (simp; omega))]; simp [go_sem, p1_1_0, s1_0, s1_1, s1_2])
  have p2_1_1 : w2.cell? ⟨w.heap.size + 1, 1, none⟩ = some (.int .u64 a1_1) := (by rw [hc2 _ _ (by first | omega | (simp; done) | (simp; omega))]; simp [go_sem, p1_1_1, s1_0, s1_1, s1_2])
  have p2_2_0 : w2.cell? ⟨w.heap.size + 1 + 1, 0, none⟩ = some (.int .i64 a2_0) := (by rw [hc2 _ _ (by first | omega | (simp; done) | (simp; omega))]; simp [go_sem, p1_2_0, s1_0, s1_1, s1_2])
  have p2_2_1 : w2.cell? ⟨w.heap.size + 1 + 1, 1, none⟩ = some (.int .u64 a2_1) := (by rw [hc2 _ _ (by first | omega | (simp; done) | (simp; omega))]; simp [go_sem, p1_2_1, s1_0, s1_1, s1_2])
  go_wp2_with fail
  first | go_ret | (go_quiet (fail); go_wp2_with fail; go_ret)
  exact ⟨rfl, by repeat (with_reducible first | apply pw_below_drewN | apply below_drew1 | apply below_alloc | exact Below.refl _ _ | (refine below_set ?_ (by first | omega | (simp; omega))) | (refine below_next ?_ (by assumption)))⟩
set_option maxHeartbeats 4000000 in
set_option maxRecDepth 100000 in
theorem away_wC (a0_0 a0_1 a1_0 a1_1 a2_0 a2_1 m rh rl bh bl : Int) (w : World) (hA : WF.Abs.f a1_0 a1_1 = some (rh, rl)) (hB : WF.Abs.f a2_0 a2_1 = some (bh, bl)) (m0 : (m == 0) = false) (m1 : (m == 1) = false) (m2 : (m == 2) = false) (cc : decide (sub64Hi bl rl 0 ≤ 1) = true) (x : decide ((sub64Lo bh rh (sub64Hi bl rl 0)) < rh) = false) (y : (rh == (sub64Lo bh rh (sub64Hi bl rl 0))) = true) (z : decide ((sub64Lo bl rl 0) < rl) = false) (u : (rl == (sub64Lo bl rl 0)) = true) (m3 : (m == 3) = true) :
    Calls Try.prog 37 #[.agg #[.int .i64 a0_0, .int .u64 a0_1], .agg #[.int .i64 a1_0, .int .u64 a1_1], .agg #[.int .i64 a2_0, .int .u64 a2_1], .int .i64 m] w fun e w' => e = .returned (.bool true) ∧ Below w.heap.size w w' := by
  have HA := fun W => Lib.hid (WF.Abs.calls _ _ _ _ W hA)
  have HB := fun W => Lib.hid (WF.Abs.calls _ _ _ _ W hB)
  clear hA hB
  go_enter Try.func37, Try.ntmps37
  go_wp2_with fail
  refine ((HA _).out).mono ?_
  rintro e w1 ⟨rfl, hb1⟩
  obtain ⟨hc1, hf1⟩ := bcell hb1
  have z1 : w.heap.size + 2 < w1.heap.size := (by have := hb1.size; (try simp at this); omega)
  have s1_0 : w.heap.size < w1.heap.size := (by omega)
  have s1_1 : w.heap.size + 1 < w1.heap.size := (by omega)
  have s1_2 : w.heap.size + 1 + 1 < w1.heap.size := (by omega)
  have p1_0_0 : w1.cell? ⟨w.heap.size, 0, none⟩ = some (.int .i64 a0_0) := (by rw [hc1 _ _ (by first | omega | (simp; done) | (simp; omega))]; simp [go_sem])
  have p1_0_1 : w1.cell? ⟨w.heap.size, 1, none⟩ = some (.int .u64 a0_1) := (by rw [hc1 _ _ (by first | omega | (simp; done) | (simp; omega))]; simp [go_sem])
  have p1_1_0 : w1.cell? ⟨w.heap.size + 1, 0, none⟩ = some (.int .i64 a1_0) := (by rw [hc1 _ _ (by first | omega | (simp; done) | (simp; omega))]; simp [go_sem])
  have p1_1_1 : w1.cell? ⟨w.heap.size + 1, 1, none⟩ = some (.int .u64 a1_1) := (by rw [hc1 _ _ (by first | omega | (simp; done) | (simp; omega))]; simp [go_sem])
  have p1_2_0 : w1.cell? ⟨w.heap.size + 1 + 1, 0, none⟩ = some (.int .i64 a2_0) := (by rw [hc1 _ _ (by first | omega | (simp; done) | (simp; omega))]; simp [go_sem])
  have p1_2_1 : w1.cell? ⟨w.heap.size + 1 + 1, 1, none⟩ = some (.int .u64 a2_1) := (by rw [hc1 _ _ (by first | omega | (simp; done) | (simp; omega))]; simp [go_sem])
  go_wp2_with fail
  refine ((HB _).out).mono ?_
  rintro e w2 ⟨rfl, hb2⟩
  obtain ⟨hc2, hf2⟩ := bcell hb2
  have z2 : w.heap.size + 2 < w2.heap.size := (by have := hb2.size; (try simp at this); omega)
  have s2_0 : w.heap.size < w2.heap.size := (by omega)
  have s2_1 : w.heap.size + 1 < w2.heap.size := (by omega)
  have s2_2 : w.heap.size + 1 + 1 < w2.heap.size := (by omega)
  have p2_0_0 : w2.cell? ⟨w.heap.size, 0, none⟩ = some (.int .i64 a0_0) := (by rw [hc2 _ _ (by first | omega | (simp; done) | (simp; omega))]; simp [go_sem, p1_0_0, s1_0, s1_1, s1_2])
  have p2_0_1 : w2.cell? ⟨w.heap.size, 1, none⟩ = some (.int .u64 a0_1) := (by rw [hc2 _ _ (by first | omega | (simp; done) | (simp; omega))]; simp [go_sem, p1_0_1, s1_0, s1_1, s1_2])
  have p2_1_0 : w2.cell? ⟨w.heap.size + 1, 0, none⟩ = some (.int .i64 a1_0) := (by rw [hc2 _ _ (by first | omega | (simp; done) | (simp; omega))]; simp [go_sem, p1_1_0, s1_0, s1_1, s1_2])
  have p2_1_1 : w2.cell? ⟨w.heap.size + 1, 1, none⟩ = some (.int .u64 a1_1) := (by rw [hc2 _ _ (by first | omega | (simp; done) | (simp; omega))]; simp [go_sem, p1_1_1, s1_0, s1_1, s1_2])
  have p2_2_0 : w2.cell? ⟨w.heap.size + 1 + 1, 0, none⟩ = some (.int .i64 a2_0) := (by rw [hc2 _ _ (by first | omega | (simp; done) | (simp; omega))]; simp [go_sem, p1_2_0, s1_0, s1_1, s1_2])
  have p2_2_1 : w2.cell? ⟨w.heap.size + 1 + 1, 1, none⟩ = some (.int .u64 a2_1) := (by rw [hc2 _ _ (by first | omega | (simp; done) | (simp; omega))]; simp [go_sem, p1_2_1, s1_0, s1_1, s1_2])
  go_wp2_with fail
  first | go_ret | (go_quiet (fail); go_wp2_with fail; go_ret)
  exact ⟨rfl, by repeat (with_reducible first | apply pw_below_drewN | apply below_drew1 | apply below_alloc | exact Below.refl _ _ | (refine below_set ?_ (by first | omega | (simp; omega))) | (refine below_next ?_ (by assumption)))⟩
set_option maxHeartbeats 4000000 in
set_option maxRecDepth 100000 in
theorem away_wC2 (a0_0 a0_1 a1_0 a1_1 a2_0 a2_1 m rh rl bh bl : Int) (w : World) (hA : WF.Abs.f a1_0 a1_1 = some (rh, rl)) (hB : WF.Abs.f a2_0 a2_1 = some (bh, bl)) (m0 : (m == 0) = false) (m1 : (m == 1) = false) (m2 : (m == 2) = false) (cc : decide (sub64Hi bl rl 0 ≤ 1) = true) (x : decide ((sub64Lo bh rh (sub64Hi bl rl 0)) < rh) = false) (y : (rh == (sub64Lo bh rh (sub64Hi bl rl 0))) = true) (z : decide ((sub64Lo bl rl 0) < rl) = false) (u : (rl == (sub64Lo bl rl 0)) = true) (m3 : (m == 3) = false) :
    Calls Try.prog 37 #[.agg #[.int .i64 a0_0, .int .u64 a0_1], .agg #[.int .i64 a1_0, .int .u64 a1_1], .agg #[.int .i64 a2_0, .int .u64 a2_1], .int .i64 m] w fun e w' => e = .returned (.bool (Go.bits .and .u64 a0_1 1 == 1)) ∧ Below w.heap.size w w' := by
  have HA := fun W => Lib.hid (WF.Abs.calls _ _ _ _ W hA)
  have HB := fun W => Lib.hid (WF.Abs.calls _ _ _ _ W hB)
  clear hA hB
  go_enter Try.func37, Try.ntmps37
  go_wp2_with fail
  refine ((HA _).out).mono ?_
  rintro e w1 ⟨rfl, hb1⟩
  obtain ⟨hc1, hf1⟩ := bcell hb1
  have z1 : w.heap.size + 2 < w1.heap.size := (by have := hb1.size; (try simp at this); omega)
  have s1_0 : w.heap.size < w1.heap.size := (by omega)
  have s1_1 : w.heap.size + 1 < w1.heap.size := (by omega)
  have s1_2 : w.heap.size + 1 + 1 < w1.heap.size := (by omega)
  have p1_0_0 : w1.cell? ⟨w.heap.size, 0, none⟩ = some (.int .i64 a0_0) := (by rw [hc1 _ _ (by first | omega | (simp; done) | (simp; omega))]; simp [go_sem])
  have p1_0_1 : w1.cell? ⟨w.heap.size, 1, none⟩ = some (.int .u64 a0_1) := (by rw [hc1 _ _ (by first | omega | (simp; done) | (simp; omega))]; simp [go_sem])
  have p1_1_0 : w1.cell? ⟨w.heap.size + 1, 0, none⟩ = some (.int .i64 a1_0) := (by rw [hc1 _ _ (by first | omega | (simp; done) | (simp; omega))]; simp [go_sem])
  have p1_1_1 : w1.cell? ⟨w.heap.size + 1, 1, none⟩ = some (.int .u64 a1_1) := (by rw [hc1 _ _ (by first | omega | (simp; done) | (simp; omega))]; simp [go_sem])
  have p1_2_0 : w1.cell? ⟨w.heap.size + 1 + 1, 0, none⟩ = some (.int .i64 a2_0) := (by rw [hc1 _ _ (by first | omega | (simp; done) | (simp; omega))]; simp [go_sem])
  have p1_2_1 : w1.cell? ⟨w.heap.size + 1 + 1, 1, none⟩ = some (.int .u64 a2_1) := (by rw [hc1 _ _ (by first | omega | (simp; done) | (simp; omega))]; simp [go_sem])
  go_wp2_with fail
  refine ((HB _).out).mono ?_
  rintro e w2 ⟨rfl, hb2⟩
  obtain ⟨hc2, hf2⟩ := bcell hb2
  have z2 : w.heap.size + 2 < w2.heap.size := (by have := hb2.size; (try simp at this); omega)
  have s2_0 : w.heap.size < w2.heap.size := (by omega)
  have s2_1 : w.heap.size + 1 < w2.heap.size := (by omega)
  have s2_2 : w.heap.size + 1 + 1 < w2.heap.size := (by omega)
  have p2_0_0 : w2.cell? ⟨w.heap.size, 0, none⟩ = some (.int .i64 a0_0) := (by rw [hc2 _ _ (by first | omega | (simp; done) | (simp; omega))]; simp [go_sem, p1_0_0, s1_0, s1_1, s1_2])
  have p2_0_1 : w2.cell? ⟨w.heap.size, 1, none⟩ = some (.int .u64 a0_1) := (by rw [hc2 _ _ (by first | omega | (simp; done) | (simp; omega))]; simp [go_sem, p1_0_1, s1_0, s1_1, s1_2])
  have p2_1_0 : w2.cell? ⟨w.heap.size + 1, 0, none⟩ = some (.int .i64 a1_0) := (by rw [hc2 _ _ (by first | omega | (simp; done) | (simp; omega))]; simp [go_sem, p1_1_0, s1_0, s1_1, s1_2])
  have p2_1_1 : w2.cell? ⟨w.heap.size + 1, 1, none⟩ = some (.int .u64 a1_1) := (by rw [hc2 _ _ (by first | omega | (simp; done) | (simp; omega))]; simp [go_sem, p1_1_1, s1_0, s1_1, s1_2])
  have p2_2_0 : w2.cell? ⟨w.heap.size + 1 + 1, 0, none⟩ = some (.int .i64 a2_0) := (by rw [hc2 _ _ (by first | omega | (simp; done) | (simp; omega))]; simp [go_sem, p1_2_0, s1_0, s1_1, s1_2])
  have p2_2_1 : w2.cell? ⟨w.heap.size + 1 + 1, 1, none⟩ = some (.int .u64 a2_1) := (by rw [hc2 _ _ (by first | omega | (simp; done) | (simp; omega))]; simp [go_sem, p1_2_1, s1_0, s1_1, s1_2])
  go_wp2_with fail
  first | go_ret | (go_quiet (fail); go_wp2_with fail; go_ret)
  exact ⟨rfl, by repeat (with_reducible first | apply pw_below_drewN | apply below_drew1 | apply below_alloc | exact Below.refl _ _ | (refine below_set ?_ (by first | omega | (simp; omega))) | (refine below_next ?_ (by assumption)))⟩
set_option maxHeartbeats 4000000 in
set_option maxRecDepth 100000 in
theorem away_wD (a0_0 a0_1 a1_0 a1_1 a2_0 a2_1 m rh rl bh bl : Int) (w : World) (hA : WF.Abs.f a1_0 a1_1 = some (rh, rl)) (hB : WF.Abs.f a2_0 a2_1 = some (bh, bl)) (m0 : (m == 0) = false) (m1 : (m == 1) = false) (m2 : (m == 2) = false) (cc : decide (sub64Hi bl rl 0 ≤ 1) = true) (x : decide ((sub64Lo bh rh (sub64Hi bl rl 0)) < rh) = false) (y : (rh == (sub64Lo bh rh (sub64Hi bl rl 0))) = true) (z : decide ((sub64Lo bl rl 0) < rl) = false) (u : (rl == (sub64Lo bl rl 0)) = false) :
    Calls Try.prog 37 #[.agg #[.int .i64 a0_0, .int .u64 a0_1], .agg #[.int .i64 a1_0, .int .u64 a1_1], .agg #[.int .i64 a2_0, .int .u64 a2_1], .int .i64 m] w fun e w' => e = .returned (.bool false) ∧ Below w.heap.size w w' := by
  have HA := fun W => Lib.hid (WF.Abs.calls _ _ _ _ W hA)
  have HB := fun W => Lib.hid (WF.Abs.calls _ _ _ _ W hB)
  clear hA hB
  go_enter Try.func37, Try.ntmps37
  go_wp2_with fail
  refine ((HA _).out).mono ?_
  rintro e w1 ⟨rfl, hb1⟩
  obtain ⟨hc1, hf1⟩ := bcell hb1
  have z1 : w.heap.size + 2 < w1.heap.size := (by have := hb1.size; (try simp at this); omega)
  have s1_0 : w.heap.size < w1.heap.size := (by omega)
  have s1_1 : w.heap.size + 1 < w1.heap.size := (by omega)
  have s1_2 : w.heap.size + 1 + 1 < w1.heap.size := (by omega)
  have p1_0_0 : w1.cell? ⟨w.heap.size, 0, none⟩ = some (.int .i64 a0_0) := (by rw [hc1 _ _ (by first | omega | (simp; done) | (simp; omega))]; simp [go_sem])
  have p1_0_1 : w1.cell? ⟨w.heap.size, 1, none⟩ = some (.int .u64 a0_1) := (by rw [hc1 _ _ (by first | omega | (simp; done) | (simp; omega))]; simp [go_sem])
  have p1_1_0 : w1.cell? ⟨w.heap.size + 1, 0, none⟩ = some (.int .i64 a1_0) := (by rw [hc1 _ _ (by first | omega | (simp; done) | (simp; omega))]; simp [go_sem])
  have p1_1_1 : w1.cell? ⟨w.heap.size + 1, 1, none⟩ = some (.int .u64 a1_1) := (by rw [hc1 _ _ (by first | omega | (simp; done) | (simp; omega))]; simp [go_sem])
  have p1_2_0 : w1.cell? ⟨w.heap.size + 1 + 1, 0, none⟩ = some (.int .i64 a2_0) := (by rw [hc1 _ _ (by first | omega | (simp; done) | (simp; omega))]; simp [go_sem])
  have p1_2_1 : w1.cell? ⟨w.heap.size + 1 + 1, 1, none⟩ = some (.int .u64 a2_1) := (by rw [hc1 _ _ (by first | omega | (simp; done) | (simp; omega))]; simp [go_sem])
  go_wp2_with fail
  refine ((HB _).out).mono ?_
  rintro e w2 ⟨rfl, hb2⟩
  obtain ⟨hc2, hf2⟩ := bcell hb2
  have z2 : w.heap.size + 2 < w2.heap.size := (by have := hb2.size; (try simp at this); omega)
  have s2_0 : w.heap.size < w2.heap.size := (by omega)
  have s2_1 : w.heap.size + 1 < w2.heap.size := (by omega)
  have s2_2 : w.heap.size + 1 + 1 < w2.heap.size := (by omega)
  have p2_0_0 : w2.cell? ⟨w.heap.size, 0, none⟩ = some (.int .i64 a0_0) := (by rw [hc2 _ _ (by first | omega | (simp; done) | (simp; omega))]; simp [go_sem, p1_0_0, s1_0, s1_1, s1_2])
  have p2_0_1 : w2.cell? ⟨w.heap.size, 1, none⟩ = some (.int .u64 a0_1) := (by rw [hc2 _ _ (by first | omega | (simp; done) | (simp; omega))]; simp [go_sem, p1_0_1, s1_0, s1_1, s1_2])
  have p2_1_0 : w2.cell? ⟨w.heap.size + 1, 0, none⟩ = some (.int .i64 a1_0) := (by rw [hc2 _ _ (by first | omega | (simp; done) | (simp; omega))]; simp [go_sem, p1_1_0, s1_0, s1_1, s1_2])
  have p2_1_1 : w2.cell? ⟨w.heap.size + 1, 1, none⟩ = some (.int .u64 a1_1) := (by rw [hc2 _ _ (by first | omega | (simp; done) | (simp; omega))]; simp [go_sem, p1_1_1, s1_0, s1_1, s1_2])
  have p2_2_0 : w2.cell? ⟨w.heap.size + 1 + 1, 0, none⟩ = some (.int .i64 a2_0) := (by rw [hc2 _ _ (by first | omega | (simp; done) | (simp; omega))]; simp [go_sem, p1_2_0, s1_0, s1_1, s1_2])
  have p2_2_1 : w2.cell? ⟨w.heap.size + 1 + 1, 1, none⟩ = some (.int .u64 a2_1) := (by rw [hc2 _ _ (by first | omega | (simp; done) | (simp; omega))]; simp [go_sem, p1_2_1, s1_0, s1_1, s1_2])
  go_wp2_with fail
  first | go_ret | (go_quiet (fail); go_wp2_with fail; go_ret)
  exact ⟨rfl, by repeat (with_reducible first | apply pw_below_drewN | apply below_drew1 | apply below_alloc | exact Below.refl _ _ | (refine below_set ?_ (by first | omega | (simp; omega))) | (refine below_next ?_ (by assumption)))⟩
set_option maxHeartbeats 4000000 in
set_option maxRecDepth 100000 in
theorem away_wE (a0_0 a0_1 a1_0 a1_1 a2_0 a2_1 m rh rl bh bl : Int) (w : World) (hA : WF.Abs.f a1_0 a1_1 = some (rh, rl)) (hB : WF.Abs.f a2_0 a2_1 = some (bh, bl)) (m0 : (m == 0) = false) (m1 : (m == 1) = false) (m2 : (m == 2) = false) (cc : decide (sub64Hi bl rl 0 ≤ 1) = true) (x : decide ((sub64Lo bh rh (sub64Hi bl rl 0)) < rh) = false) (y : (rh == (sub64Lo bh rh (sub64Hi bl rl 0))) = false) :
    Calls Try.prog 37 #[.agg #[.int .i64 a0_0, .int .u64 a0_1], .agg #[.int .i64 a1_0, .int .u64 a1_1], .agg #[.int .i64 a2_0, .int .u64 a2_1], .int .i64 m] w fun e w' => e = .returned (.bool false) ∧ Below w.heap.size w w' := by
  have HA := fun W => Lib.hid (WF.Abs.calls _ _ _ _ W hA)
  have HB := fun W => Lib.hid (WF.Abs.calls _ _ _ _ W hB)
  clear hA hB
  go_enter Try.func37, Try.ntmps37
  go_wp2_with fail
  refine ((HA _).out).mono ?_
  rintro e w1 ⟨rfl, hb1⟩
  obtain ⟨hc1, hf1⟩ := bcell hb1
  have z1 : w.heap.size + 2 < w1.heap.size := (by have := hb1.size; (try simp at this); omega)
  have s1_0 : w.heap.size < w1.heap.size := (by omega)
  have s1_1 : w.heap.size + 1 < w1.heap.size := (by omega)
  have s1_2 : w.heap.size + 1 + 1 < w1.heap.size := (by omega)
  have p1_0_0 : w1.cell? ⟨w.heap.size, 0, none⟩ = some (.int .i64 a0_0) := (by rw [hc1 _ _ (by first | omega | (simp; done) | (simp; omega))]; simp [go_sem])
  have p1_0_1 : w1.cell? ⟨w.heap.size, 1, none⟩ = some (.int .u64 a0_1) := (by rw [hc1 _ _ (by first | omega | (simp; done) | (simp; omega))]; simp [go_sem])
  have p1_1_0 : w1.cell? ⟨w.heap.size + 1, 0, none⟩ = some (.int .i64 a1_0) := (by rw [hc1 _ _ (by first | omega | (simp; done) | (simp; omega))]; simp [go_sem])
  have p1_1_1 : w1.cell? ⟨w.heap.size + 1, 1, none⟩ = some (.int .u64 a1_1) := (by rw [hc1 _ _ (by first | omega | (simp; done) | (simp; omega))]; simp [go_sem])
  have p1_2_0 : w1.cell? ⟨w.heap.size + 1 + 1, 0, none⟩ = some (.int .i64 a2_0) := (by rw [hc1 _ _ (by first | omega | (simp; done) | (simp; omega))]; simp [go_sem])
  have p1_2_1 : w1.cell? ⟨w.heap.size + 1 + 1, 1, none⟩ = some (.int .u64 a2_1) := (by rw [hc1 _ _ (by first | omega | (simp; done) | (simp; omega))]; simp [go_sem])
  go_wp2_with fail
  refine ((HB _).out).mono ?_
  rintro e w2 ⟨rfl, hb2⟩
  obtain ⟨hc2, hf2⟩ := bcell hb2
  have z2 : w.heap.size + 2 < w2.heap.size := (by have := hb2.size; (try simp at this); omega)
  have s2_0 : w.heap.size < w2.heap.size := (by omega)
  have s2_1 : w.heap.size + 1 < w2.heap.size := (by omega)
  have s2_2 : w.heap.size + 1 + 1 < w2.heap.size := (by omega)
  have p2_0_0 : w2.cell? ⟨w.heap.size, 0, none⟩ = some (.int .i64 a0_0) := (by rw [hc2 _ _ (by first | omega | (simp; done) | (simp; omega))]; simp [go_sem, p1_0_0, s1_0, s1_1, s1_2])
  have p2_0_1 : w2.cell? ⟨w.heap.size, 1, none⟩ = some (.int .u64 a0_1) := (by rw [hc2 _ _ (by first | omega | (simp; done) | (simp; omega))]; simp [go_sem, p1_0_1, s1_0, s1_1, s1_2])
  have p2_1_0 : w2.cell? ⟨w.heap.size + 1, 0, none⟩ = some (.int .i64 a1_0) := (by rw [hc2 _ _ (by first | omega | (simp; done) | (simp; omega))]; simp [go_sem, p1_1_0, s1_0, s1_1, s1_2])
  have p2_1_1 : w2.cell? ⟨w.heap.size + 1, 1, none⟩ = some (.int .u64 a1_1) := (by rw [hc2 _ _ (by first | omega | (simp; done) | (simp; omega))]; simp [go_sem, p1_1_1, s1_0, s1_1, s1_2])
  have p2_2_0 : w2.cell? ⟨w.heap.size + 1 + 1, 0, none⟩ = some (.int .i64 a2_0) := (by rw [hc2 _ _ (by first | omega | (simp; done) | (simp; omega))]; simp [go_sem, p1_2_0, s1_0, s1_1, s1_2])
  have p2_2_1 : w2.cell? ⟨w.heap.size + 1 + 1, 1, none⟩ = some (.int .u64 a2_1) := (by rw [hc2 _ _ (by first | omega | (simp; done) | (simp; omega))]; simp [go_sem, p1_2_1, s1_0, s1_1, s1_2])
  go_wp2_with fail
  first | go_ret | (go_quiet (fail); go_wp2_with fail; go_ret)
  exact ⟨rfl, by repeat (with_reducible first | apply pw_below_drewN | apply below_drew1 | apply below_alloc | exact Below.refl _ _ | (refine below_set ?_ (by first | omega | (simp; omega))) | (refine below_next ?_ (by assumption)))⟩
def wfar (q r b m : Int) : Bool := if m = 0 then (decide (r < 0) != decide (b < 0)) else if m = 1 then !(decide (r < 0) != decide (b < 0)) else if m = 2 then false else if wabs b < 2 * wabs r then true else if wabs b = 2 * wabs r then (decide (m = 3) || decide (q % 2 = 1)) else false
def away.f (a0_0 a0_1 a1_0 a1_1 a2_0 a2_1 a3 : Int) : Option Bool := if (WB a0_0 a0_1 ∧ WB a1_0 a1_1 ∧ WB a2_0 a2_1) ∧ wabs (wv a1_0 a1_1) ≤ wabs (wv a2_0 a2_1) then some (wfar (wv a0_0 a0_1) (wv a1_0 a1_1) (wv a2_0 a2_1) a3) else none
theorem u64_odd {x : Int} (h : 0 ≤ x ∧ x ≤ 18446744073709551615) : (Go.bits .and .u64 x 1 == 1) = decide (x % 2 = 1) := by
  rw [u64_and x 1 h.1 (by omega) (by omega) (by omega), show (1 : Int).toNat = 1 from rfl, Nat.and_one_is_mod]
  rw [Bool.eq_iff_iff, beq_iff_eq, decide_eq_true_eq]
  omega
theorem lack {bh bl rh rl : Int} (h1 : 0 ≤ bh ∧ bh ≤ 18446744073709551615) (h2 : 0 ≤ bl ∧ bl ≤ 18446744073709551615) (h3 : 0 ≤ rh ∧ rh ≤ 18446744073709551615) (h4 : 0 ≤ rl ∧ rl ≤ 18446744073709551615) (h : rh * 18446744073709551616 + rl ≤ bh * 18446744073709551616 + bl) :
    sub64Hi bl rl 0 ≤ 1 ∧ ∃ hi lo, sub64Lo bh rh (sub64Hi bl rl 0) = hi ∧ sub64Lo bl rl 0 = lo ∧ (0 ≤ hi ∧ hi ≤ 18446744073709551615) ∧ (0 ≤ lo ∧ lo ≤ 18446744073709551615) ∧ hi * 18446744073709551616 + lo = bh * 18446744073709551616 + bl - (rh * 18446744073709551616 + rl) := by
  have c : 0 ≤ sub64Hi bl rl 0 ∧ sub64Hi bl rl 0 ≤ 1 := by rw [sub64_hi h2 h4 (by omega)]; omega
  refine ⟨c.2, _, _, rfl, rfl, ?_⟩
  rw [sub64_lo h1.1 h3 c, sub64_lo h2.1 h4 (by omega), sub64_hi h2 h4 (by omega)]
  omega
theorem away.calls (a0_0 a0_1 a1_0 a1_1 a2_0 a2_1 a3 : Int) (r : Bool) (w : World) (h : away.f a0_0 a0_1 a1_0 a1_1 a2_0 a2_1 a3 = some r) :
    Calls Try.prog 37 #[.agg #[.int .i64 a0_0, .int .u64 a0_1], .agg #[.int .i64 a1_0, .int .u64 a1_1], .agg #[.int .i64 a2_0, .int .u64 a2_1], .int .i64 a3] w fun e w' => e = .returned (.bool r) ∧ Below w.heap.size w w' := by
  unfold away.f at h
  split at h
  · rename_i hb
    obtain rfl := Option.some.inj h
    obtain ⟨⟨hq, hr, hb⟩, hl⟩ := hb
    unfold wfar
    by_cases m0 : a3 = 0
    · subst m0
      rw [if_pos rfl, ← wneg_dec hr, ← wneg_dec hb]
      exact away_w0 _ _ _ _ _ _ w _ _ rfl rfl
    rw [if_neg m0]
    by_cases m1 : a3 = 1
    · subst m1
      rw [if_pos rfl, ← wneg_dec hr, ← wneg_dec hb]
      exact away_w1 _ _ _ _ _ _ w _ _ rfl rfl
    rw [if_neg m1]
    by_cases m2 : a3 = 2
    · subst m2
      rw [if_pos rfl]
      exact away_w2 _ _ _ _ _ _ w _ _ rfl rfl
    rw [if_neg m2]
    have hA := Abs_f hr
    have hB := Abs_f hb
    have iA := wabs_in hr
    have iB := wabs_in hb
    obtain ⟨cc, hi, lo, e1, e2, g1, g2, g3⟩ := lack (bh := wabs (wv a2_0 a2_1) / 18446744073709551616) (bl := wabs (wv a2_0 a2_1) % 18446744073709551616) (rh := wabs (wv a1_0 a1_1) / 18446744073709551616) (rl := wabs (wv a1_0 a1_1) % 18446744073709551616) (by omega) (by omega) (by omega) (by omega) (by omega)
    have cc := decide_eq_true cc
    have m0 := beq_eq_false_iff_ne.2 m0
    have m1 := beq_eq_false_iff_ne.2 m1
    have m2 := beq_eq_false_iff_ne.2 m2
    have hodd := u64_odd hq.2
    have hodd2 : (a0_1 % 2 = 1) ↔ (wv a0_0 a0_1 % 2 = 1) := by unfold wv; omega
    by_cases x : hi < wabs (wv a1_0 a1_1) / 18446744073709551616
    · rw [if_pos (by omega)]
      exact away_wA _ _ _ _ _ _ _ _ _ _ _ w hA hB m0 m1 m2 cc (by rw [e1]; exact decide_eq_true x)
    have x' : decide (hi < wabs (wv a1_0 a1_1) / 18446744073709551616) = false := decide_eq_false x
    rw [← e1] at x'
    by_cases y : wabs (wv a1_0 a1_1) / 18446744073709551616 = hi
    · have y' : (wabs (wv a1_0 a1_1) / 18446744073709551616 == hi) = true := beq_iff_eq.2 y
      rw [← e1] at y'
      by_cases z : lo < wabs (wv a1_0 a1_1) % 18446744073709551616
      · rw [if_pos (by omega)]
        exact away_wB _ _ _ _ _ _ _ _ _ _ _ w hA hB m0 m1 m2 cc x' y' (by rw [e2]; exact decide_eq_true z)
      have z' : decide (lo < wabs (wv a1_0 a1_1) % 18446744073709551616) = false := decide_eq_false z
      rw [← e2] at z'
      rw [if_neg (by omega)]
      by_cases u : wabs (wv a1_0 a1_1) % 18446744073709551616 = lo
      · have u' : (wabs (wv a1_0 a1_1) % 18446744073709551616 == lo) = true := beq_iff_eq.2 u
        rw [← e2] at u'
        rw [if_pos (by omega)]
        by_cases m3 : a3 = 3
        · rw [decide_eq_true m3, Bool.true_or]
          exact away_wC _ _ _ _ _ _ _ _ _ _ _ w hA hB m0 m1 m2 cc x' y' z' u' (beq_iff_eq.2 m3)
        · rw [decide_eq_false m3, Bool.false_or, ← decide_eq_decide.2 hodd2, ← hodd]
          exact away_wC2 _ _ _ _ _ _ _ _ _ _ _ w hA hB m0 m1 m2 cc x' y' z' u' (beq_eq_false_iff_ne.2 m3)
      · rw [if_neg (by omega)]
        exact away_wD _ _ _ _ _ _ _ _ _ _ _ w hA hB m0 m1 m2 cc x' y' z' (by rw [e2]; exact beq_eq_false_iff_ne.2 u)
    · rw [if_neg (by omega), if_neg (by omega)]
      exact away_wE _ _ _ _ _ _ _ _ _ _ _ w hA hB m0 m1 m2 cc x' (by rw [e1]; exact beq_eq_false_iff_ne.2 y)
  · cases h
set_option maxHeartbeats 4000000 in
set_option maxRecDepth 100000 in
theorem Div_w0 (a0_0 a0_1 a1_0 a1_1 m : Int) (w : World) (x y : Bool) (hxy : (x || y) = true) (hx : decide (m < 0) = x) (hy : decide (4 < m) = y) :
    Calls Try.prog 16 #[.agg #[.int .i64 a0_0, .int .u64 a0_1], .agg #[.int .i64 a1_0, .int .u64 a1_1], .int .i64 m] w fun e w' => e = .returned (.tuple #[.agg #[.int .i64 0, .int .u64 0], .int .i64 1]) ∧ Below w.heap.size w w' := by
  cases x <;> cases y <;> first | (exact absurd hxy (by decide)) | skip
  all_goals
  · go_enter Try.func16, Try.ntmps16
    go_wp2
    exact bodyPost_ret (by simp [results, Try.results16, go_sem]) rfl ⟨rfl, by repeat (with_reducible first | apply pw_below_drewN | apply below_drew1 | apply below_alloc | exact Below.refl _ _ | (refine below_set ?_ (by first | omega | (simp; omega))) | (refine below_next ?_ (by assumption)))⟩
set_option maxHeartbeats 4000000 in
set_option maxRecDepth 100000 in
theorem Div_w1 (a0_0 a0_1 a1_0 a1_1 m q1 q2 r1 r2 ee : Int) (w : World) (hQ : QuoRem.f a0_0 a0_1 a1_0 a1_1 = some (q1, q2, r1, r2, ee)) (hx : decide (m < 0) = false) (hy : decide (4 < m) = false) (he : (ee != 0) = true) :
    Calls Try.prog 16 #[.agg #[.int .i64 a0_0, .int .u64 a0_1], .agg #[.int .i64 a1_0, .int .u64 a1_1], .int .i64 m] w fun e w' => e = .returned (.tuple #[.agg #[.int .i64 q1, .int .u64 q2], .int .i64 ee]) ∧ Below w.heap.size w w' := by
  have HQ := fun W => Lib.hid (QuoRem.calls _ _ _ _ _ _ _ _ _ W hQ)
  clear hQ
  go_enter Try.func16, Try.ntmps16
  go_wp2_with fail
  refine ((HQ _).out).mono ?_
  rintro e w1 ⟨rfl, hb1⟩
  obtain ⟨hc1, hf1⟩ := bcell hb1
  have z1 : w.heap.size + 2 < w1.heap.size := (by have := hb1.size; (try simp at this); omega)
  have s1_0 : w.heap.size < w1.heap.size := (by omega)
  have s1_1 : w.heap.size + 1 < w1.heap.size := (by omega)
  have s1_2 : w.heap.size + 1 + 1 < w1.heap.size := (by omega)
  have p1_0_0 : w1.cell? ⟨w.heap.size, 0, none⟩ = some (.int .i64 a0_0) := (by rw [hc1 _ _ (by first | omega | (simp; done) | (simp; omega))]; simp [go_sem])
  have p1_0_1 : w1.cell? ⟨w.heap.size, 1, none⟩ = some (.int .u64 a0_1) := (by rw [hc1 _ _ (by first | omega | (simp; done) | (simp; omega))]; simp [go_sem])
  have p1_1_0 : w1.cell? ⟨w.heap.size + 1, 0, none⟩ = some (.int .i64 a1_0) := (by rw [hc1 _ _ (by first | omega | (simp; done) | (simp; omega))]; simp [go_sem])
  have p1_1_1 : w1.cell? ⟨w.heap.size + 1, 1, none⟩ = some (.int .u64 a1_1) := (by rw [hc1 _ _ (by first | omega | (simp; done) | (simp; omega))]; simp [go_sem])
  have p1_2_0 : w1.cell? ⟨w.heap.size + 1 + 1, 0, none⟩ = some (.int .i64 0) := (by rw [hc1 _ _ (by first | omega | (simp; done) | (simp; omega))]; simp [go_sem])
  have p1_2_1 : w1.cell? ⟨w.heap.size + 1 + 1, 1, none⟩ = some (.int .u64 0) := (by rw [hc1 _ _ (by first | omega | (simp; done) | (simp; omega))]; simp [go_sem])
  go_wp2_with fail
  exact bodyPost_ret (by simp [results, Try.results16, go_sem, p1_0_0, p1_0_1, p1_1_0, p1_1_1, p1_2_0, p1_2_1, s1_0, s1_1, s1_2]) rfl ⟨rfl, by repeat (with_reducible first | apply pw_below_drewN | apply below_drew1 | apply below_alloc | exact Below.refl _ _ | (refine below_set ?_ (by first | omega | (simp; omega))) | (refine below_next ?_ (by assumption)))⟩
set_option maxHeartbeats 4000000 in
set_option maxRecDepth 100000 in
theorem Div_w2 (a0_0 a0_1 a1_0 a1_1 m q1 q2 r1 r2 ee : Int) (w : World) (hQ : QuoRem.f a0_0 a0_1 a1_0 a1_1 = some (q1, q2, r1, r2, ee)) (hx : decide (m < 0) = false) (hy : decide (4 < m) = false) (he : (ee != 0) = false) (h1 : (r1 == 0) = true) (h2 : (r2 == 0) = true) :
    Calls Try.prog 16 #[.agg #[.int .i64 a0_0, .int .u64 a0_1], .agg #[.int .i64 a1_0, .int .u64 a1_1], .int .i64 m] w fun e w' => e = .returned (.tuple #[.agg #[.int .i64 q1, .int .u64 q2], .int .i64 ee]) ∧ Below w.heap.size w w' := by
  have HQ := fun W => Lib.hid (QuoRem.calls _ _ _ _ _ _ _ _ _ W hQ)
  clear hQ
  go_enter Try.func16, Try.ntmps16
  go_wp2_with fail
  refine ((HQ _).out).mono ?_
  rintro e w1 ⟨rfl, hb1⟩
  obtain ⟨hc1, hf1⟩ := bcell hb1
  have z1 : w.heap.size + 2 < w1.heap.size := (by have := hb1.size; (try simp at this); omega)
  have s1_0 : w.heap.size < w1.heap.size := (by omega)
  have s1_1 : w.heap.size + 1 < w1.heap.size := (by omega)
  have s1_2 : w.heap.size + 1 + 1 < w1.heap.size := (by omega)
  have p1_0_0 : w1.cell? ⟨w.heap.size, 0, none⟩ = some (.int .i64 a0_0) := (by rw [hc1 _ _ (by first | omega | (simp; done) | (simp; omega))]; simp [go_sem])
  have p1_0_1 : w1.cell? ⟨w.heap.size, 1, none⟩ = some (.int .u64 a0_1) := (by rw [hc1 _ _ (by first | omega | (simp; done) | (simp; omega))]; simp [go_sem])
  have p1_1_0 : w1.cell? ⟨w.heap.size + 1, 0, none⟩ = some (.int .i64 a1_0) := (by rw [hc1 _ _ (by first | omega | (simp; done) | (simp; omega))]; simp [go_sem])
  have p1_1_1 : w1.cell? ⟨w.heap.size + 1, 1, none⟩ = some (.int .u64 a1_1) := (by rw [hc1 _ _ (by first | omega | (simp; done) | (simp; omega))]; simp [go_sem])
  have p1_2_0 : w1.cell? ⟨w.heap.size + 1 + 1, 0, none⟩ = some (.int .i64 0) := (by rw [hc1 _ _ (by first | omega | (simp; done) | (simp; omega))]; simp [go_sem])
  have p1_2_1 : w1.cell? ⟨w.heap.size + 1 + 1, 1, none⟩ = some (.int .u64 0) := (by rw [hc1 _ _ (by first | omega | (simp; done) | (simp; omega))]; simp [go_sem])
  go_wp2_with fail
  exact bodyPost_ret (by simp [results, Try.results16, go_sem, p1_0_0, p1_0_1, p1_1_0, p1_1_1, p1_2_0, p1_2_1, s1_0, s1_1, s1_2]) rfl ⟨rfl, by repeat (with_reducible first | apply pw_below_drewN | apply below_drew1 | apply below_alloc | exact Below.refl _ _ | (refine below_set ?_ (by first | omega | (simp; omega))) | (refine below_next ?_ (by assumption)))⟩
set_option maxHeartbeats 4000000 in
set_option maxRecDepth 100000 in
theorem Div_w3 (a0_0 a0_1 a1_0 a1_1 m q1 q2 r1 r2 ee : Int) (w : World) (hQ : QuoRem.f a0_0 a0_1 a1_0 a1_1 = some (q1, q2, r1, r2, ee)) (hx : decide (m < 0) = false) (hy : decide (4 < m) = false) (he : (ee != 0) = false) (x y : Bool) (hxy : (x && y) = false) (h1 : (r1 == 0) = x) (h2 : (r2 == 0) = y) (hW : away.f q1 q2 r1 r2 a1_0 a1_1 m = some false) :
    Calls Try.prog 16 #[.agg #[.int .i64 a0_0, .int .u64 a0_1], .agg #[.int .i64 a1_0, .int .u64 a1_1], .int .i64 m] w fun e w' => e = .returned (.tuple #[.agg #[.int .i64 q1, .int .u64 q2], .int .i64 ee]) ∧ Below w.heap.size w w' := by
  have HQ := fun W => Lib.hid (QuoRem.calls _ _ _ _ _ _ _ _ _ W hQ)
  clear hQ
  have HW := fun W => Lib.hid (away.calls _ _ _ _ _ _ _ _ W hW)
  clear hW
  cases x <;> cases y <;> first | (exact absurd hxy (by decide)) | skip
  all_goals
  · go_enter Try.func16, Try.ntmps16
    go_wp2_with fail
    refine ((HQ _).out).mono ?_
    rintro e w1 ⟨rfl, hb1⟩
    obtain ⟨hc1, hf1⟩ := bcell hb1
    have z1 : w.heap.size + 2 < w1.heap.size := (by have := hb1.size; (try simp at this); omega)
    have s1_0 : w.heap.size < w1.heap.size := (by omega)
    have s1_1 : w.heap.size + 1 < w1.heap.size := (by omega)
    have s1_2 : w.heap.size + 1 + 1 < w1.heap.size := (by omega)
    have p1_0_0 : w1.cell? ⟨w.heap.size, 0, none⟩ = some (.int .i64 a0_0) := (by rw [hc1 _ _ (by first | omega | (simp; done) | (simp; omega))]; simp [go_sem])
    have p1_0_1 : w1.cell? ⟨w.heap.size, 1, none⟩ = some (.int .u64 a0_1) := (by rw [hc1 _ _ (by first | omega | (simp; done) | (simp; omega))]; simp [go_sem])
    have p1_1_0 : w1.cell? ⟨w.heap.size + 1, 0, none⟩ = some (.int .i64 a1_0) := (by rw [hc1 _ _ (by first | omega | (simp; done) | (simp; omega))]; simp [go_sem])
    have p1_1_1 : w1.cell? ⟨w.heap.size + 1, 1, none⟩ = some (.int .u64 a1_1) := (by rw [hc1 _ _ (by first | omega | (simp; done) | (simp; omega))]; simp [go_sem])
    have p1_2_0 : w1.cell? ⟨w.heap.size + 1 + 1, 0, none⟩ = some (.int .i64 0) := (by rw [hc1 _ _ (by first | omega | (simp; done) | (simp; omega))]; simp [go_sem])
    have p1_2_1 : w1.cell? ⟨w.heap.size + 1 + 1, 1, none⟩ = some (.int .u64 0) := (by rw [hc1 _ _ (by first | omega | (simp; done) | (simp; omega))]; simp [go_sem])
    go_wp2_with fail
    refine ((HW _).out).mono ?_
    rintro e w2 ⟨rfl, hb2⟩
    obtain ⟨hc2, hf2⟩ := bcell hb2
    have z2 : w.heap.size + 2 < w2.heap.size := (by have := hb2.size; (try simp at this); omega)
    have s2_0 : w.heap.size < w2.heap.size := (by omega)
    have s2_1 : w.heap.size + 1 < w2.heap.size := (by omega)
    have s2_2 : w.heap.size + 1 + 1 < w2.heap.size := (by omega)
    have p2_0_0 : w2.cell? ⟨w.heap.size, 0, none⟩ = some (.int .i64 a0_0) := (by rw [hc2 _ _ (by first | omega | (simp; done) | (simp; omega))]; simp [go_sem, p1_0_0, s1_0, s1_1, s1_2])
    have p2_0_1 : w2.cell? ⟨w.heap.size, 1, none⟩ = some (.int .u64 a0_1) := (by rw [hc2 _ _ (by first | omega | (simp; done) | (simp; omega))]; simp [go_sem, p1_0_1, s1_0, s1_1, s1_2])
    have p2_1_0 : w2.cell? ⟨w.heap.size + 1, 0, none⟩ = some (.int .i64 a1_0) := (by rw [hc2 _ _ (by first | omega | (simp; done) | (simp; omega))]; simp [go_sem, p1_1_0, s1_0, s1_1, s1_2])
    have p2_1_1 : w2.cell? ⟨w.heap.size + 1, 1, none⟩ = some (.int .u64 a1_1) := (by rw [hc2 _ _ (by first | omega | (simp; done) | (simp; omega))]; simp [go_sem, p1_1_1, s1_0, s1_1, s1_2])
    have p2_2_0 : w2.cell? ⟨w.heap.size + 1 + 1, 0, none⟩ = some (.int .i64 0) := (by rw [hc2 _ _ (by first | omega | (simp; done) | (simp; omega))]; simp [go_sem, p1_2_0, s1_0, s1_1, s1_2])
    have p2_2_1 : w2.cell? ⟨w.heap.size + 1 + 1, 1, none⟩ = some (.int .u64 0) := (by rw [hc2 _ _ (by first | omega | (simp; done) | (simp; omega))]; simp [go_sem, p1_2_1, s1_0, s1_1, s1_2])
    go_wp2_with fail
    exact bodyPost_ret (by simp [results, Try.results16, go_sem, p2_0_0, p2_0_1, p2_1_0, p2_1_1, p2_2_0, p2_2_1, s2_0, s2_1, s2_2]) rfl ⟨rfl, by repeat (with_reducible first | apply pw_below_drewN | apply below_drew1 | apply below_alloc | exact Below.refl _ _ | (refine below_set ?_ (by first | omega | (simp; omega))) | (refine below_next ?_ (by assumption)))⟩
set_option maxHeartbeats 4000000 in
set_option maxRecDepth 100000 in
theorem Div_w4Sub (a0_0 a0_1 a1_0 a1_1 m q1 q2 r1 r2 ee : Int) (w : World) (hQ : QuoRem.f a0_0 a0_1 a1_0 a1_1 = some (q1, q2, r1, r2, ee)) (hx : decide (m < 0) = false) (hy : decide (4 < m) = false) (he : (ee != 0) = false) (hxy : (r1 == 0 && r2 == 0) = false) (hW : away.f q1 q2 r1 r2 a1_0 a1_1 m = some true) (huv : (decide (a0_0 < 0) == decide (a1_0 < 0)) = false) (o1 o2 v1 v2 v3 : Int) (hO : Of.f 1 = some (o1, o2)) (hS : Sub.f q1 q2 o1 o2 = some (v1, v2, v3)) :
    Calls Try.prog 16 #[.agg #[.int .i64 a0_0, .int .u64 a0_1], .agg #[.int .i64 a1_0, .int .u64 a1_1], .int .i64 m] w fun e w' => e = .returned (.tuple #[.agg #[.int .i64 v1, .int .u64 v2], .int .i64 v3]) ∧ Below w.heap.size w w' := by
  have HQ := fun W => Lib.hid (QuoRem.calls _ _ _ _ _ _ _ _ _ W hQ)
  clear hQ
  have HW := fun W => Lib.hid (away.calls _ _ _ _ _ _ _ _ W hW)
  have HO := fun W => Lib.hid (Of.calls _ _ _ W hO)
  have HS := fun W => Lib.hid (Sub.calls _ _ _ _ _ _ _ W hS)
  clear hW hO hS
  · go_enter Try.func16, Try.ntmps16
    go_wp2_with fail
    refine ((HQ _).out).mono ?_
    rintro e w1 ⟨rfl, hb1⟩
    obtain ⟨hc1, hf1⟩ := bcell hb1
    have z1 : w.heap.size + 2 < w1.heap.size := (by have := hb1.size; (try simp at this); omega)
    have s1_0 : w.heap.size < w1.heap.size := (by omega)
    have s1_1 : w.heap.size + 1 < w1.heap.size := (by omega)
    have s1_2 : w.heap.size + 1 + 1 < w1.heap.size := (by omega)
    have p1_0_0 : w1.cell? ⟨w.heap.size, 0, none⟩ = some (.int .i64 a0_0) := (by rw [hc1 _ _ (by first | omega | (simp; done) | (simp; omega))]; simp [go_sem])
    have p1_0_1 : w1.cell? ⟨w.heap.size, 1, none⟩ = some (.int .u64 a0_1) := (by rw [hc1 _ _ (by first | omega | (simp; done) | (simp; omega))]; simp [go_sem])
    have p1_1_0 : w1.cell? ⟨w.heap.size + 1, 0, none⟩ = some (.int .i64 a1_0) := (by rw [hc1 _ _ (by first | omega | (simp; done) | (simp; omega))]; simp [go_sem])
    have p1_1_1 : w1.cell? ⟨w.heap.size + 1, 1, none⟩ = some (.int .u64 a1_1) := (by rw [hc1 _ _ (by first | omega | (simp; done) | (simp; omega))]; simp [go_sem])
    have p1_2_0 : w1.cell? ⟨w.heap.size + 1 + 1, 0, none⟩ = some (.int .i64 0) := (by rw [hc1 _ _ (by first | omega | (simp; done) | (simp; omega))]; simp [go_sem])
    have p1_2_1 : w1.cell? ⟨w.heap.size + 1 + 1, 1, none⟩ = some (.int .u64 0) := (by rw [hc1 _ _ (by first | omega | (simp; done) | (simp; omega))]; simp [go_sem])
    go_wp2_with fail
    have f1_0 : w1.frozen? ⟨w.heap.size + 1 + 1, 0, none⟩ = false := (by rw [hf1 _ _ (by first | omega | (simp; done) | (simp; omega))]; simp [go_sem])
    have f1_1 : w1.frozen? ⟨w.heap.size + 1 + 1, 1, none⟩ = false := (by rw [hf1 _ _ (by first | omega | (simp; done) | (simp; omega))]; simp [go_sem])
    refine ((HW _).out).mono ?_
    rintro e w2 ⟨rfl, hb2⟩
    obtain ⟨hc2, hf2⟩ := bcell hb2
    have z2 : w.heap.size + 2 < w2.heap.size := (by have := hb2.size; (try simp at this); omega)
    have s2_0 : w.heap.size < w2.heap.size := (by omega)
    have s2_1 : w.heap.size + 1 < w2.heap.size := (by omega)
    have s2_2 : w.heap.size + 1 + 1 < w2.heap.size := (by omega)
    have p2_0_0 : w2.cell? ⟨w.heap.size, 0, none⟩ = some (.int .i64 a0_0) := (by rw [hc2 _ _ (by first | omega | (simp; done) | (simp; omega))]; simp [go_sem, p1_0_0, s1_0, s1_1, s1_2])
    have p2_0_1 : w2.cell? ⟨w.heap.size, 1, none⟩ = some (.int .u64 a0_1) := (by rw [hc2 _ _ (by first | omega | (simp; done) | (simp; omega))]; simp [go_sem, p1_0_1, s1_0, s1_1, s1_2])
    have p2_1_0 : w2.cell? ⟨w.heap.size + 1, 0, none⟩ = some (.int .i64 a1_0) := (by rw [hc2 _ _ (by first | omega | (simp; done) | (simp; omega))]; simp [go_sem, p1_1_0, s1_0, s1_1, s1_2])
    have p2_1_1 : w2.cell? ⟨w.heap.size + 1, 1, none⟩ = some (.int .u64 a1_1) := (by rw [hc2 _ _ (by first | omega | (simp; done) | (simp; omega))]; simp [go_sem, p1_1_1, s1_0, s1_1, s1_2])
    have p2_2_0 : w2.cell? ⟨w.heap.size + 1 + 1, 0, none⟩ = some (.int .i64 0) := (by rw [hc2 _ _ (by first | omega | (simp; done) | (simp; omega))]; simp [go_sem, p1_2_0, s1_0, s1_1, s1_2])
    have p2_2_1 : w2.cell? ⟨w.heap.size + 1 + 1, 1, none⟩ = some (.int .u64 0) := (by rw [hc2 _ _ (by first | omega | (simp; done) | (simp; omega))]; simp [go_sem, p1_2_1, s1_0, s1_1, s1_2])
    have t2 : w1.heap.size < w2.heap.size := (by have := hb2.size; simp at this; omega)
    have pq0 : w2.cell? ⟨w1.heap.size, 0, none⟩ = some (.int .i64 q1) := (by rw [hc2 _ _ (by simp; try omega)]; simp [go_sem])
    have pq1 : w2.cell? ⟨w1.heap.size, 1, none⟩ = some (.int .u64 q2) := (by rw [hc2 _ _ (by simp; try omega)]; simp [go_sem])
    have f2_0 : w2.frozen? ⟨w.heap.size + 1 + 1, 0, none⟩ = false := (by rw [hf2 _ _ (by first | omega | (simp; done) | (simp; omega))]; simp [go_sem, f1_0, s1_0, s1_1, s1_2])
    have f2_1 : w2.frozen? ⟨w.heap.size + 1 + 1, 1, none⟩ = false := (by rw [hf2 _ _ (by first | omega | (simp; done) | (simp; omega))]; simp [go_sem, f1_1, s1_0, s1_1, s1_2])
    go_wp2_with fail
    go_region_with (first | (go_at_call 20; refine ((HO _).out).mono ?_; rintro e w3 ⟨rfl, hb3⟩; obtain ⟨hc3, hf3⟩ := bcell hb3; have s3_0 : w.heap.size < w3.heap.size := (by have := hb3.size; (try simp at this); omega); have s3_1 : w.heap.size + 1 < w3.heap.size := (by have := hb3.size; (try simp at this); omega); have s3_2 : w.heap.size + 1 + 1 < w3.heap.size := (by have := hb3.size; (try simp at this); omega); have t3 : w1.heap.size < w3.heap.size := (by have := hb3.size; (try simp at this); omega); have p3_2_0 : w3.cell? ⟨w.heap.size + 1 + 1, 0, none⟩ = some (.int .i64 0) := (by rw [hc3 _ _ (by first | omega | (simp; done) | (simp; omega))]; simp [go_sem, p2_2_0]); have p3_2_1 : w3.cell? ⟨w.heap.size + 1 + 1, 1, none⟩ = some (.int .u64 0) := (by rw [hc3 _ _ (by first | omega | (simp; done) | (simp; omega))]; simp [go_sem, p2_2_1]); have f3_0 : w3.frozen? ⟨w.heap.size + 1 + 1, 0, none⟩ = false := (by rw [hf3 _ _ (by first | omega | (simp; done) | (simp; omega))]; simp [go_sem, f2_0, s2_0, s2_1, s2_2]); have f3_1 : w3.frozen? ⟨w.heap.size + 1 + 1, 1, none⟩ = false := (by rw [hf3 _ _ (by first | omega | (simp; done) | (simp; omega))]; simp [go_sem, f2_1, s2_0, s2_1, s2_2]); have pr0 : w3.cell? ⟨w1.heap.size, 0, none⟩ = some (.int .i64 q1) := (by rw [hc3 _ _ (by first | omega | (simp; done) | (simp; omega))]; simp [go_sem, pq0]); have pr1 : w3.cell? ⟨w1.heap.size, 1, none⟩ = some (.int .u64 q2) := (by rw [hc3 _ _ (by first | omega | (simp; done) | (simp; omega))]; simp [go_sem, pq1])) | (go_at_call 24; refine ((HS _).out).mono ?_; rintro e w4 ⟨rfl, hb4⟩; obtain ⟨hc4, hf4⟩ := bcell hb4; have s4_0 : w.heap.size < w4.heap.size := (by have := hb4.size; (try simp at this); omega); have s4_1 : w.heap.size + 1 < w4.heap.size := (by have := hb4.size; (try simp at this); omega); have s4_2 : w.heap.size + 1 + 1 < w4.heap.size := (by have := hb4.size; (try simp at this); omega); have t4 : w1.heap.size < w4.heap.size := (by have := hb4.size; (try simp at this); omega); have p4_2_0 : w4.cell? ⟨w.heap.size + 1 + 1, 0, none⟩ = some (.int .i64 0) := (by rw [hc4 _ _ (by first | omega | (simp; done) | (simp; omega))]; simp [go_sem, p3_2_0]); have p4_2_1 : w4.cell? ⟨w.heap.size + 1 + 1, 1, none⟩ = some (.int .u64 0) := (by rw [hc4 _ _ (by first | omega | (simp; done) | (simp; omega))]; simp [go_sem, p3_2_1]); have f4_0 : w4.frozen? ⟨w.heap.size + 1 + 1, 0, none⟩ = false := (by rw [hf4 _ _ (by first | omega | (simp; done) | (simp; omega))]; simp [go_sem, f3_0, s3_0, s3_1, s3_2]); have f4_1 : w4.frozen? ⟨w.heap.size + 1 + 1, 1, none⟩ = false := (by rw [hf4 _ _ (by first | omega | (simp; done) | (simp; omega))]; simp [go_sem, f3_1, s3_0, s3_1, s3_2])))
    all_goals go_wp2_with fail
    all_goals (exact bodyPost_ret (by simp [results, Try.results16, go_sem, p4_2_0, p4_2_1, s4_0, s4_1, s4_2]) rfl ⟨rfl, by repeat (with_reducible first | apply pw_below_drewN | apply below_drew1 | apply below_alloc | exact Below.refl _ _ | (refine below_set ?_ (by first | omega | (simp; omega))) | (refine below_next ?_ (by assumption)))⟩)
set_option maxHeartbeats 4000000 in
set_option maxRecDepth 100000 in
theorem Div_w4Add (a0_0 a0_1 a1_0 a1_1 m q1 q2 r1 r2 ee : Int) (w : World) (hQ : QuoRem.f a0_0 a0_1 a1_0 a1_1 = some (q1, q2, r1, r2, ee)) (hx : decide (m < 0) = false) (hy : decide (4 < m) = false) (he : (ee != 0) = false) (hxy : (r1 == 0 && r2 == 0) = false) (hW : away.f q1 q2 r1 r2 a1_0 a1_1 m = some true) (huv : (decide (a0_0 < 0) == decide (a1_0 < 0)) = true) (o1 o2 v1 v2 v3 : Int) (hO : Of.f 1 = some (o1, o2)) (hS : Add.f q1 q2 o1 o2 = some (v1, v2, v3)) :
    Calls Try.prog 16 #[.agg #[.int .i64 a0_0, .int .u64 a0_1], .agg #[.int .i64 a1_0, .int .u64 a1_1], .int .i64 m] w fun e w' => e = .returned (.tuple #[.agg #[.int .i64 v1, .int .u64 v2], .int .i64 v3]) ∧ Below w.heap.size w w' := by
  have HQ := fun W => Lib.hid (QuoRem.calls _ _ _ _ _ _ _ _ _ W hQ)
  clear hQ
  have HW := fun W => Lib.hid (away.calls _ _ _ _ _ _ _ _ W hW)
  have HO := fun W => Lib.hid (Of.calls _ _ _ W hO)
  have HS := fun W => Lib.hid (Add.calls _ _ _ _ _ _ _ W hS)
  clear hW hO hS
  · go_enter Try.func16, Try.ntmps16
    go_wp2_with fail
    refine ((HQ _).out).mono ?_
    rintro e w1 ⟨rfl, hb1⟩
    obtain ⟨hc1, hf1⟩ := bcell hb1
    have z1 : w.heap.size + 2 < w1.heap.size := (by have := hb1.size; (try simp at this); omega)
    have s1_0 : w.heap.size < w1.heap.size := (by omega)
    have s1_1 : w.heap.size + 1 < w1.heap.size := (by omega)
    have s1_2 : w.heap.size + 1 + 1 < w1.heap.size := (by omega)
    have p1_0_0 : w1.cell? ⟨w.heap.size, 0, none⟩ = some (.int .i64 a0_0) := (by rw [hc1 _ _ (by first | omega | (simp; done) | (simp; omega))]; simp [go_sem])
    have p1_0_1 : w1.cell? ⟨w.heap.size, 1, none⟩ = some (.int .u64 a0_1) := (by rw [hc1 _ _ (by first | omega | (simp; done) | (simp; omega))]; simp [go_sem])
    have p1_1_0 : w1.cell? ⟨w.heap.size + 1, 0, none⟩ = some (.int .i64 a1_0) := (by rw [hc1 _ _ (by first | omega | (simp; done) | (simp; omega))]; simp [go_sem])
    have p1_1_1 : w1.cell? ⟨w.heap.size + 1, 1, none⟩ = some (.int .u64 a1_1) := (by rw [hc1 _ _ (by first | omega | (simp; done) | (simp; omega))]; simp [go_sem])
    have p1_2_0 : w1.cell? ⟨w.heap.size + 1 + 1, 0, none⟩ = some (.int .i64 0) := (by rw [hc1 _ _ (by first | omega | (simp; done) | (simp; omega))]; simp [go_sem])
    have p1_2_1 : w1.cell? ⟨w.heap.size + 1 + 1, 1, none⟩ = some (.int .u64 0) := (by rw [hc1 _ _ (by first | omega | (simp; done) | (simp; omega))]; simp [go_sem])
    go_wp2_with fail
    have f1_0 : w1.frozen? ⟨w.heap.size + 1 + 1, 0, none⟩ = false := (by rw [hf1 _ _ (by first | omega | (simp; done) | (simp; omega))]; simp [go_sem])
    have f1_1 : w1.frozen? ⟨w.heap.size + 1 + 1, 1, none⟩ = false := (by rw [hf1 _ _ (by first | omega | (simp; done) | (simp; omega))]; simp [go_sem])
    refine ((HW _).out).mono ?_
    rintro e w2 ⟨rfl, hb2⟩
    obtain ⟨hc2, hf2⟩ := bcell hb2
    have z2 : w.heap.size + 2 < w2.heap.size := (by have := hb2.size; (try simp at this); omega)
    have s2_0 : w.heap.size < w2.heap.size := (by omega)
    have s2_1 : w.heap.size + 1 < w2.heap.size := (by omega)
    have s2_2 : w.heap.size + 1 + 1 < w2.heap.size := (by omega)
    have p2_0_0 : w2.cell? ⟨w.heap.size, 0, none⟩ = some (.int .i64 a0_0) := (by rw [hc2 _ _ (by first | omega | (simp; done) | (simp; omega))]; simp [go_sem, p1_0_0, s1_0, s1_1, s1_2])
    have p2_0_1 : w2.cell? ⟨w.heap.size, 1, none⟩ = some (.int .u64 a0_1) := (by rw [hc2 _ _ (by first | omega | (simp; done) | (simp; omega))]; simp [go_sem, p1_0_1, s1_0, s1_1, s1_2])
    have p2_1_0 : w2.cell? ⟨w.heap.size + 1, 0, none⟩ = some (.int .i64 a1_0) := (by rw [hc2 _ _ (by first | omega | (simp; done) | (simp; omega))]; simp [go_sem, p1_1_0, s1_0, s1_1, s1_2])
    have p2_1_1 : w2.cell? ⟨w.heap.size + 1, 1, none⟩ = some (.int .u64 a1_1) := (by rw [hc2 _ _ (by first | omega | (simp; done) | (simp; omega))]; simp [go_sem, p1_1_1, s1_0, s1_1, s1_2])
    have p2_2_0 : w2.cell? ⟨w.heap.size + 1 + 1, 0, none⟩ = some (.int .i64 0) := (by rw [hc2 _ _ (by first | omega | (simp; done) | (simp; omega))]; simp [go_sem, p1_2_0, s1_0, s1_1, s1_2])
    have p2_2_1 : w2.cell? ⟨w.heap.size + 1 + 1, 1, none⟩ = some (.int .u64 0) := (by rw [hc2 _ _ (by first | omega | (simp; done) | (simp; omega))]; simp [go_sem, p1_2_1, s1_0, s1_1, s1_2])
    have t2 : w1.heap.size < w2.heap.size := (by have := hb2.size; simp at this; omega)
    have pq0 : w2.cell? ⟨w1.heap.size, 0, none⟩ = some (.int .i64 q1) := (by rw [hc2 _ _ (by simp; try omega)]; simp [go_sem])
    have pq1 : w2.cell? ⟨w1.heap.size, 1, none⟩ = some (.int .u64 q2) := (by rw [hc2 _ _ (by simp; try omega)]; simp [go_sem])
    have f2_0 : w2.frozen? ⟨w.heap.size + 1 + 1, 0, none⟩ = false := (by rw [hf2 _ _ (by first | omega | (simp; done) | (simp; omega))]; simp [go_sem, f1_0, s1_0, s1_1, s1_2])
    have f2_1 : w2.frozen? ⟨w.heap.size + 1 + 1, 1, none⟩ = false := (by rw [hf2 _ _ (by first | omega | (simp; done) | (simp; omega))]; simp [go_sem, f1_1, s1_0, s1_1, s1_2])
    go_wp2_with fail
    go_region_with (first | (go_at_call 20; refine ((HO _).out).mono ?_; rintro e w3 ⟨rfl, hb3⟩; obtain ⟨hc3, hf3⟩ := bcell hb3; have s3_0 : w.heap.size < w3.heap.size := (by have := hb3.size; (try simp at this); omega); have s3_1 : w.heap.size + 1 < w3.heap.size := (by have := hb3.size; (try simp at this); omega); have s3_2 : w.heap.size + 1 + 1 < w3.heap.size := (by have := hb3.size; (try simp at this); omega); have t3 : w1.heap.size < w3.heap.size := (by have := hb3.size; (try simp at this); omega); have p3_2_0 : w3.cell? ⟨w.heap.size + 1 + 1, 0, none⟩ = some (.int .i64 0) := (by rw [hc3 _ _ (by first | omega | (simp; done) | (simp; omega))]; simp [go_sem, p2_2_0]); have p3_2_1 : w3.cell? ⟨w.heap.size + 1 + 1, 1, none⟩ = some (.int .u64 0) := (by rw [hc3 _ _ (by first | omega | (simp; done) | (simp; omega))]; simp [go_sem, p2_2_1]); have f3_0 : w3.frozen? ⟨w.heap.size + 1 + 1, 0, none⟩ = false := (by rw [hf3 _ _ (by first | omega | (simp; done) | (simp; omega))]; simp [go_sem, f2_0, s2_0, s2_1, s2_2]); have f3_1 : w3.frozen? ⟨w.heap.size + 1 + 1, 1, none⟩ = false := (by rw [hf3 _ _ (by first | omega | (simp; done) | (simp; omega))]; simp [go_sem, f2_1, s2_0, s2_1, s2_2]); have pr0 : w3.cell? ⟨w1.heap.size, 0, none⟩ = some (.int .i64 q1) := (by rw [hc3 _ _ (by first | omega | (simp; done) | (simp; omega))]; simp [go_sem, pq0]); have pr1 : w3.cell? ⟨w1.heap.size, 1, none⟩ = some (.int .u64 q2) := (by rw [hc3 _ _ (by first | omega | (simp; done) | (simp; omega))]; simp [go_sem, pq1])) | (go_at_call 21; refine ((HS _).out).mono ?_; rintro e w4 ⟨rfl, hb4⟩; obtain ⟨hc4, hf4⟩ := bcell hb4; have s4_0 : w.heap.size < w4.heap.size := (by have := hb4.size; (try simp at this); omega); have s4_1 : w.heap.size + 1 < w4.heap.size := (by have := hb4.size; (try simp at this); omega); have s4_2 : w.heap.size + 1 + 1 < w4.heap.size := (by have := hb4.size; (try simp at this); omega); have t4 : w1.heap.size < w4.heap.size := (by have := hb4.size; (try simp at this); omega); have p4_2_0 : w4.cell? ⟨w.heap.size + 1 + 1, 0, none⟩ = some (.int .i64 0) := (by rw [hc4 _ _ (by first | omega | (simp; done) | (simp; omega))]; simp [go_sem, p3_2_0]); have p4_2_1 : w4.cell? ⟨w.heap.size + 1 + 1, 1, none⟩ = some (.int .u64 0) := (by rw [hc4 _ _ (by first | omega | (simp; done) | (simp; omega))]; simp [go_sem, p3_2_1]); have f4_0 : w4.frozen? ⟨w.heap.size + 1 + 1, 0, none⟩ = false := (by rw [hf4 _ _ (by first | omega | (simp; done) | (simp; omega))]; simp [go_sem, f3_0, s3_0, s3_1, s3_2]); have f4_1 : w4.frozen? ⟨w.heap.size + 1 + 1, 1, none⟩ = false := (by rw [hf4 _ _ (by first | omega | (simp; done) | (simp; omega))]; simp [go_sem, f3_1, s3_0, s3_1, s3_2])))
    all_goals go_wp2_with fail
    all_goals (exact bodyPost_ret (by simp [results, Try.results16, go_sem, p4_2_0, p4_2_1, s4_0, s4_1, s4_2]) rfl ⟨rfl, by repeat (with_reducible first | apply pw_below_drewN | apply below_drew1 | apply below_alloc | exact Below.refl _ _ | (refine below_set ?_ (by first | omega | (simp; omega))) | (refine below_next ?_ (by assumption)))⟩)
theorem wabs_rng {a : Int} (h : -170141183460469231731687303715884105728 ≤ a ∧ a ≤ 170141183460469231731687303715884105727) : 0 ≤ wabs a ∧ wabs a ≤ 170141183460469231731687303715884105728 := by
  unfold wabs
  split <;> omega
theorem quo_range {a b : Int} (ia : -170141183460469231731687303715884105728 ≤ a ∧ a ≤ 170141183460469231731687303715884105727) (ib : -170141183460469231731687303715884105728 ≤ b ∧ b ≤ 170141183460469231731687303715884105727) (h0 : b ≠ 0) (h1 : ¬ (a = -170141183460469231731687303715884105728 ∧ b = -1)) :
    (-170141183460469231731687303715884105728 ≤ Int.tdiv a b ∧ Int.tdiv a b ≤ 170141183460469231731687303715884105727) ∧ (-170141183460469231731687303715884105728 ≤ Int.tmod a b ∧ Int.tmod a b ≤ 170141183460469231731687303715884105727) ∧ wabs (Int.tmod a b) < wabs b := by
  have iA := wabs_rng ia
  have iB := wabs_rng ib
  have ht := tdiv_wabs a b
  have hm := tmod_wabs a b
  have hB1 : 1 ≤ wabs b := by unfold wabs; split <;> omega
  have q0 : 0 ≤ wabs a / wabs b := Int.ediv_nonneg iA.1 (by omega)
  have q1 : wabs a / wabs b ≤ wabs a := Int.ediv_le_self _ iA.1
  have r0 := Int.emod_nonneg (wabs a) (show wabs b ≠ 0 by omega)
  have r1' := Int.emod_lt_of_pos (wabs a) (show 0 < wabs b by omega)
  refine ⟨?_, ?_, ?_⟩
  · rw [ht]
    split
    · omega
    · rename_i hs
      have hs' : decide (a < 0) = decide (b < 0) := by simpa using hs
      have hs2 := decide_eq_decide.1 hs'
      refine ⟨by omega, Int.le_of_lt_add_one ?_⟩
      refine Int.ediv_lt_of_lt_mul (by omega) ?_
      have e1 : wabs a = 170141183460469231731687303715884105728 → a = -170141183460469231731687303715884105728 := by unfold wabs; split <;> omega
      have e2 : b < 0 → wabs b = -b := fun h => if_pos h
      omega
  · rw [hm]; split <;> omega
  · rw [hm]
    clear hm ht q0 q1
    generalize wabs a % wabs b = r at *
    have : wabs (if decide (a < 0) = true then -r else r) = r := by
      split <;> unfold wabs <;> split <;> omega
    rw [this]
    exact r1'
theorem WB_split {v : Int} (h : -170141183460469231731687303715884105728 ≤ v ∧ v ≤ 170141183460469231731687303715884105727) : WB (v / 18446744073709551616) (v % 18446744073709551616) := by unfold WB; omega
def rquo (a b m : Int) : Int := if Int.tmod a b = 0 then Int.tdiv a b else if wfar (Int.tdiv a b) (Int.tmod a b) b m = true then (if (decide (a < 0) == decide (b < 0)) = true then Int.tdiv a b + 1 else Int.tdiv a b - 1) else Int.tdiv a b
def dans (a b m : Int) : Int × Int × Int := if m < 0 ∨ 4 < m then (0, 0, 1) else if b = 0 then (0, 0, 20) else wans (rquo a b m)
def Div.f (a0_0 a0_1 a1_0 a1_1 a2 : Int) : Option (Int × Int × Int) := if WB a0_0 a0_1 ∧ WB a1_0 a1_1 then some (dans (wv a0_0 a0_1) (wv a1_0 a1_1) a2) else none
theorem Div.calls (a0_0 a0_1 a1_0 a1_1 a2 r1 r2 r3 : Int) (w : World) (h : Div.f a0_0 a0_1 a1_0 a1_1 a2 = some (r1, r2, r3)) :
    Calls Try.prog 16 #[.agg #[.int .i64 a0_0, .int .u64 a0_1], .agg #[.int .i64 a1_0, .int .u64 a1_1], .int .i64 a2] w fun e w' => e = .returned (.tuple #[.agg #[.int .i64 r1, .int .u64 r2], .int .i64 r3]) ∧ Below w.heap.size w w' := by
  unfold Div.f at h
  split at h
  · rename_i hb
    have h := Option.some.inj h
    obtain ⟨ha, hb⟩ := hb
    unfold dans at h
    by_cases hm : a2 < 0 ∨ 4 < a2
    · rw [if_pos hm] at h
      obtain ⟨rfl, rfl, rfl⟩ := by simpa only [Prod.mk.injEq] using h
      exact Div_w0 _ _ _ _ _ w _ _ (by simpa using hm) rfl rfl
    rw [if_neg hm] at h
    have hx : decide (a2 < 0) = false := decide_eq_false (by omega)
    have hy : decide (4 < a2) = false := decide_eq_false (by omega)
    have hQ := QuoRem_f ha hb
    unfold qans at hQ
    by_cases h0 : wv a1_0 a1_1 = 0
    · rw [if_pos h0] at h hQ
      obtain ⟨rfl, rfl, rfl⟩ := by simpa only [Prod.mk.injEq] using h
      exact Div_w1 _ _ _ _ _ _ _ _ _ _ w hQ hx hy rfl
    rw [if_neg h0] at h hQ
    by_cases h1 : wv a0_0 a0_1 = -170141183460469231731687303715884105728 ∧ wv a1_0 a1_1 = -1
    · rw [if_pos h1] at hQ
      have e : wans (rquo (wv a0_0 a0_1) (wv a1_0 a1_1) a2) = (0, 0, 10) := by
        rw [h1.1, h1.2]
        unfold rquo
        rw [if_pos (by decide)]
        exact wans_out (by decide)
      rw [e] at h
      obtain ⟨rfl, rfl, rfl⟩ := by simpa only [Prod.mk.injEq] using h
      exact Div_w1 _ _ _ _ _ _ _ _ _ _ w hQ hx hy rfl
    rw [if_neg h1] at hQ
    obtain ⟨iq, ir, hl⟩ := quo_range (wv_in ha) (wv_in hb) h0 h1
    unfold rquo at h
    by_cases hz : Int.tmod (wv a0_0 a0_1) (wv a1_0 a1_1) = 0
    · rw [if_pos hz, wans_in iq] at h
      obtain ⟨rfl, rfl, rfl⟩ := by simpa only [Prod.mk.injEq] using h
      exact Div_w2 _ _ _ _ _ _ _ _ _ _ w hQ hx hy rfl (by rw [hz]; rfl) (by rw [hz]; rfl)
    rw [if_neg hz] at h
    have hxy : (Int.tmod (wv a0_0 a0_1) (wv a1_0 a1_1) / 18446744073709551616 == 0 && Int.tmod (wv a0_0 a0_1) (wv a1_0 a1_1) % 18446744073709551616 == 0) = false := by
      rw [← Bool.not_eq_true, Bool.and_eq_true, beq_iff_eq, beq_iff_eq]
      omega
    have hW : away.f (Int.tdiv (wv a0_0 a0_1) (wv a1_0 a1_1) / 18446744073709551616) (Int.tdiv (wv a0_0 a0_1) (wv a1_0 a1_1) % 18446744073709551616) (Int.tmod (wv a0_0 a0_1) (wv a1_0 a1_1) / 18446744073709551616) (Int.tmod (wv a0_0 a0_1) (wv a1_0 a1_1) % 18446744073709551616) a1_0 a1_1 a2 = some (wfar (Int.tdiv (wv a0_0 a0_1) (wv a1_0 a1_1)) (Int.tmod (wv a0_0 a0_1) (wv a1_0 a1_1)) (wv a1_0 a1_1) a2) := by
      unfold away.f
      rw [wv_of, wv_of]
      exact if_pos ⟨⟨WB_split iq, WB_split ir, hb⟩, by omega⟩
    by_cases hf : wfar (Int.tdiv (wv a0_0 a0_1) (wv a1_0 a1_1)) (Int.tmod (wv a0_0 a0_1) (wv a1_0 a1_1)) (wv a1_0 a1_1) a2 = true
    · rw [hf] at hW
      rw [if_pos hf, ← wneg_dec ha, ← wneg_dec hb] at h
      by_cases hs : (decide (a0_0 < 0) == decide (a1_0 < 0)) = true
      · rw [if_pos hs] at h
        refine Div_w4Add _ _ _ _ _ _ _ _ _ _ w hQ hx hy rfl hxy hW hs _ _ _ _ _ (Of_f (by omega)) ?_
        rw [Add_f (WB_split iq) (WB_of (by omega)), wv_of, wv_of, h]
      · rw [if_neg hs] at h
        refine Div_w4Sub _ _ _ _ _ _ _ _ _ _ w hQ hx hy rfl hxy hW (Bool.eq_false_iff.2 hs) _ _ _ _ _ (Of_f (by omega)) ?_
        rw [Sub_f (WB_split iq) (WB_of (by omega)), wv_of, wv_of, h]
    · rw [Bool.eq_false_iff.2 hf] at hW
      rw [if_neg hf, wans_in iq] at h
      obtain ⟨rfl, rfl, rfl⟩ := by simpa only [Prod.mk.injEq] using h
      exact Div_w3 _ _ _ _ _ _ _ _ _ _ w hQ hx hy rfl _ _ hxy rfl rfl hW
  · cases h
theorem Div_f {a0 a1 b0 b1 : Int} (m : Int) (ha : WB a0 a1) (hb : WB b0 b1) : Div.f a0 a1 b0 b1 m = some (dans (wv a0 a1) (wv b0 b1) m) := if_pos ⟨ha, hb⟩
end Go.Proofs.Ytieeaicdpdidpaa.TF
