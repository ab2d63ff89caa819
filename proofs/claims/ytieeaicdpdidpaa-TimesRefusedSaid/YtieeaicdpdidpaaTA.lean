/-
  octroilaw02's awake: it answers true.
-/
import Derived.Test.YtieeaicdpdidpaaTH
import Derived.Deep.RegionHeld3
namespace Go.Proofs.Ytieeaicdpdidpaa.TF
open Go.RowKit Go.Proofs.YtieeaicdpdidpaaW.PrintWords
open WF
set_option linter.unusedVariables false
set_option linter.unusedSimpArgs false
attribute [local go_sem] run_add64 run_sub64
attribute [local go_sem high] eqW
set_option maxHeartbeats 4000000 in
set_option maxRecDepth 100000 in
theorem awake.calls (w : World) : Calls Try.prog 11 #[] w fun e w' => e = .returned (.bool true) ∧ Below w.heap.size w w' := by
  have HM := fun W => Lib.hid (Mul.calls 1 0 (-1) 9223372036854775808 (-9223372036854775808) 0 0 W (by decide))
  have HO1 := fun W => Lib.hid (Of.calls (-5) (-1) 18446744073709551611 W (by decide))
  have HO2 := fun W => Lib.hid (Of.calls 2 0 2 W (by decide))
  have HD := fun W => Lib.hid (Div.calls (-1) 18446744073709551611 0 2 3 (-1) 18446744073709551613 0 W (by decide))
  have HP := fun W => Lib.hid (Power.calls 2 0 100000000 0 W (by decide))
  have HO3 := fun W => Lib.hid (Of.calls (-3) (-1) 18446744073709551613 W (by decide))
  go_enter Try.func11, Try.ntmps11
  go_wp2_with fail
  refine ((HM _).out).mono ?_
  rintro e w1 ⟨rfl, hb1⟩
  obtain ⟨hc1, hf1⟩ := bcell hb1
  go_wp2_with fail
  refine ((HO1 _).out).mono ?_
  rintro e w2 ⟨rfl, hb2⟩
  obtain ⟨hc2, hf2⟩ := bcell hb2
  have s2_p : w1.heap.size < w2.heap.size := (by have := hb2.size; (try simp at this); omega)
  have c2_p_0 : w2.cell? ⟨w1.heap.size, 0, none⟩ = some (.int .i64 (-9223372036854775808)) := (by rw [hc2 _ _ (by first | omega | (simp; done) | (simp; omega))]; simp [go_sem])
  have c2_p_1 : w2.cell? ⟨w1.heap.size, 1, none⟩ = some (.int .u64 0) := (by rw [hc2 _ _ (by first | omega | (simp; done) | (simp; omega))]; simp [go_sem])
  go_wp2_with fail
  refine ((HO2 _).out).mono ?_
  rintro e w3 ⟨rfl, hb3⟩
  obtain ⟨hc3, hf3⟩ := bcell hb3
  have s3_p : w1.heap.size < w3.heap.size := (by have := hb3.size; (try simp at this); omega)
  have c3_p_0 : w3.cell? ⟨w1.heap.size, 0, none⟩ = some (.int .i64 (-9223372036854775808)) := (by rw [hc3 _ _ (by first | omega | (simp; done) | (simp; omega))]; simp [go_sem, c2_p_0, s2_p])
  have c3_p_1 : w3.cell? ⟨w1.heap.size, 1, none⟩ = some (.int .u64 0) := (by rw [hc3 _ _ (by first | omega | (simp; done) | (simp; omega))]; simp [go_sem, c2_p_1, s2_p])
  go_wp2_with fail
  refine ((HD _).out).mono ?_
  rintro e w4 ⟨rfl, hb4⟩
  obtain ⟨hc4, hf4⟩ := bcell hb4
  have s4_p : w1.heap.size < w4.heap.size := (by have := hb4.size; (try simp at this); omega)
  have c4_p_0 : w4.cell? ⟨w1.heap.size, 0, none⟩ = some (.int .i64 (-9223372036854775808)) := (by rw [hc4 _ _ (by first | omega | (simp; done) | (simp; omega))]; simp [go_sem, c3_p_0, s3_p])
  have c4_p_1 : w4.cell? ⟨w1.heap.size, 1, none⟩ = some (.int .u64 0) := (by rw [hc4 _ _ (by first | omega | (simp; done) | (simp; omega))]; simp [go_sem, c3_p_1, s3_p])
  go_wp2_with fail
  refine ((HP _).out).mono ?_
  rintro e w5 ⟨rfl, hb5⟩
  obtain ⟨hc5, hf5⟩ := bcell hb5
  have s5_p : w1.heap.size < w5.heap.size := (by have := hb5.size; (try simp at this); omega)
  have s5_q : w4.heap.size < w5.heap.size := (by have := hb5.size; (try simp at this); omega)
  have c5_p_0 : w5.cell? ⟨w1.heap.size, 0, none⟩ = some (.int .i64 (-9223372036854775808)) := (by rw [hc5 _ _ (by first | omega | (simp; done) | (simp; omega))]; simp [go_sem, c4_p_0, s4_p])
  have c5_p_1 : w5.cell? ⟨w1.heap.size, 1, none⟩ = some (.int .u64 0) := (by rw [hc5 _ _ (by first | omega | (simp; done) | (simp; omega))]; simp [go_sem, c4_p_1, s4_p])
  have c5_q_0 : w5.cell? ⟨w4.heap.size, 0, none⟩ = some (.int .i64 (-1)) := (by rw [hc5 _ _ (by first | omega | (simp; done) | (simp; omega))]; simp [go_sem, s4_p])
  have c5_q_1 : w5.cell? ⟨w4.heap.size, 1, none⟩ = some (.int .u64 18446744073709551613) := (by rw [hc5 _ _ (by first | omega | (simp; done) | (simp; omega))]; simp [go_sem, s4_p])
  go_wp2_with fail
  go_region_held3 (fun w' => w'.cell? ⟨w1.heap.size, 0, none⟩ = some (.int .i64 (-9223372036854775808)) ∧ w'.cell? ⟨w1.heap.size, 1, none⟩ = some (.int .u64 0) ∧ w'.cell? ⟨w4.heap.size, 0, none⟩ = some (.int .i64 (-1)) ∧ w'.cell? ⟨w4.heap.size, 1, none⟩ = some (.int .u64 18446744073709551613) ∧ w'.cell? ⟨w5.heap.size, 0, none⟩ = some (.int .i64 0) ∧ w'.cell? ⟨w5.heap.size, 1, none⟩ = some (.int .u64 100000000)) (first | exact ⟨c6_p_0, c6_p_1, c6_q_0, c6_q_1, c6_n_0, c6_n_1⟩ | go_keep) (first | (go_at_call 20; refine ((HO3 _).out).mono ?_; rintro e w6 ⟨rfl, hb6⟩; obtain ⟨hc6, hf6⟩ := bcell hb6; have s6_p : w1.heap.size < w6.heap.size := (by have := hb6.size; (try simp at this); omega); have s6_q : w4.heap.size < w6.heap.size := (by have := hb6.size; (try simp at this); omega); have s6_n : w5.heap.size < w6.heap.size := (by have := hb6.size; (try simp at this); omega); have c6_p_0 : w6.cell? ⟨w1.heap.size, 0, none⟩ = some (.int .i64 (-9223372036854775808)) := (by rw [hc6 _ _ (by first | omega | (simp; done) | (simp; omega))]; simp [go_sem, c5_p_0, s5_p, s5_q]); have c6_p_1 : w6.cell? ⟨w1.heap.size, 1, none⟩ = some (.int .u64 0) := (by rw [hc6 _ _ (by first | omega | (simp; done) | (simp; omega))]; simp [go_sem, c5_p_1, s5_p, s5_q]); have c6_q_0 : w6.cell? ⟨w4.heap.size, 0, none⟩ = some (.int .i64 (-1)) := (by rw [hc6 _ _ (by first | omega | (simp; done) | (simp; omega))]; simp [go_sem, c5_q_0, s5_p, s5_q]); have c6_q_1 : w6.cell? ⟨w4.heap.size, 1, none⟩ = some (.int .u64 18446744073709551613) := (by rw [hc6 _ _ (by first | omega | (simp; done) | (simp; omega))]; simp [go_sem, c5_q_1, s5_p, s5_q]); have c6_n_0 : w6.cell? ⟨w5.heap.size, 0, none⟩ = some (.int .i64 0) := (by rw [hc6 _ _ (by first | omega | (simp; done) | (simp; omega))]; simp [go_sem, s5_p, s5_q]); have c6_n_1 : w6.cell? ⟨w5.heap.size, 1, none⟩ = some (.int .u64 100000000) := (by rw [hc6 _ _ (by first | omega | (simp; done) | (simp; omega))]; simp [go_sem, s5_p, s5_q])))
  all_goals go_wp2_with fail
  all_goals (go_ret; exact ⟨rfl, by repeat (with_reducible first | apply pw_below_drewN | apply below_drew1 | apply below_alloc | exact Below.refl _ _ | (refine below_set ?_ (by first | omega | (simp; omega))) | (refine below_next ?_ (by assumption)))⟩)
end Go.Proofs.Ytieeaicdpdidpaa.TF
