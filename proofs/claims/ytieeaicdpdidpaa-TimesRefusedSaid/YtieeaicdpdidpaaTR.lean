/-
  octroilaw02's TimesRefused: it answers true. No condition but that words are words.
-/
import Derived.Test.YtieeaicdpdidpaaTB
import Derived.Test.YtieeaicdpdidpaaWLast
import Derived.Deep.RegionHeld3
namespace Go.Proofs.Ytieeaicdpdidpaa.TF
open Go.RowKit Go.Proofs.YtieeaicdpdidpaaW.PrintWords
open WF Go.Proofs.YtieeaicdpdidpaaW.PrintLast
set_option linter.unusedVariables false
set_option linter.unusedSimpArgs false
attribute [local go_sem] run_add64 run_sub64
attribute [local go_sem high] eqW
set_option maxHeartbeats 4000000 in
set_option maxRecDepth 100000 in
theorem TimesRefused_w0 (a0_0 a0_1 a1_0 a1_1 p1 p2 ee : Int) (w : World) (hM : Mul.f a0_0 a0_1 a1_0 a1_1 = some (p1, p2, ee)) (hSA : WF.Sign.f a0_0 a0_1 = some 0) (he : (ee == 0) = true) :
    Calls Try.prog 10 #[.agg #[.int .i64 a0_0, .int .u64 a0_1], .agg #[.int .i64 a1_0, .int .u64 a1_1]] w fun e w' => e = .returned (.bool true) ∧ Below w.heap.size w w' := by
  have HW := fun W => Lib.hid (awake.calls W)
  have HM := fun W => Lib.hid (Mul.calls _ _ _ _ _ _ _ W hM)
  have HSA := fun W => Lib.hid (WF.Sign.calls _ _ _ W hSA)
  clear hM hSA
  go_enter Try.func10, Try.ntmps10
  go_wp2_with fail
  refine ((HW _).out).mono ?_
  rintro e w1 ⟨rfl, hb1⟩
  obtain ⟨hc1, hf1⟩ := bcell hb1
  have s1_a : w.heap.size < w1.heap.size := (by have := hb1.size; (try simp at this); omega)
  have s1_b : w.heap.size + 1 < w1.heap.size := (by have := hb1.size; (try simp at this); omega)
  have c1_a_0 : w1.cell? ⟨w.heap.size, 0, none⟩ = some (.int .i64 a0_0) := (by rw [hc1 _ _ (by first | omega | (simp; done) | (simp; omega))]; simp [go_sem])
  have c1_a_1 : w1.cell? ⟨w.heap.size, 1, none⟩ = some (.int .u64 a0_1) := (by rw [hc1 _ _ (by first | omega | (simp; done) | (simp; omega))]; simp [go_sem])
  have c1_b_0 : w1.cell? ⟨w.heap.size + 1, 0, none⟩ = some (.int .i64 a1_0) := (by rw [hc1 _ _ (by first | omega | (simp; done) | (simp; omega))]; simp [go_sem])
  have c1_b_1 : w1.cell? ⟨w.heap.size + 1, 1, none⟩ = some (.int .u64 a1_1) := (by rw [hc1 _ _ (by first | omega | (simp; done) | (simp; omega))]; simp [go_sem])
  go_wp2_with fail
  refine ((HM _).out).mono ?_
  rintro e w2 ⟨rfl, hb2⟩
  obtain ⟨hc2, hf2⟩ := bcell hb2
  have s2_a : w.heap.size < w2.heap.size := (by have := hb2.size; (try simp at this); omega)
  have s2_b : w.heap.size + 1 < w2.heap.size := (by have := hb2.size; (try simp at this); omega)
  have c2_a_0 : w2.cell? ⟨w.heap.size, 0, none⟩ = some (.int .i64 a0_0) := (by rw [hc2 _ _ (by first | omega | (simp; done) | (simp; omega))]; simp [go_sem, c1_a_0, s1_a, s1_b])
  have c2_a_1 : w2.cell? ⟨w.heap.size, 1, none⟩ = some (.int .u64 a0_1) := (by rw [hc2 _ _ (by first | omega | (simp; done) | (simp; omega))]; simp [go_sem, c1_a_1, s1_a, s1_b])
  have c2_b_0 : w2.cell? ⟨w.heap.size + 1, 0, none⟩ = some (.int .i64 a1_0) := (by rw [hc2 _ _ (by first | omega | (simp; done) | (simp; omega))]; simp [go_sem, c1_b_0, s1_a, s1_b])
  have c2_b_1 : w2.cell? ⟨w.heap.size + 1, 1, none⟩ = some (.int .u64 a1_1) := (by rw [hc2 _ _ (by first | omega | (simp; done) | (simp; omega))]; simp [go_sem, c1_b_1, s1_a, s1_b])
  go_wp2_with fail
  refine ((HSA _).out).mono ?_
  rintro e w3 ⟨rfl, hb3⟩
  obtain ⟨hc3, hf3⟩ := bcell hb3
  have s3_a : w.heap.size < w3.heap.size := (by have := hb3.size; (try simp at this); omega)
  have s3_b : w.heap.size + 1 < w3.heap.size := (by have := hb3.size; (try simp at this); omega)
  have c3_a_0 : w3.cell? ⟨w.heap.size, 0, none⟩ = some (.int .i64 a0_0) := (by rw [hc3 _ _ (by first | omega | (simp; done) | (simp; omega))]; simp [go_sem, c2_a_0, s2_a, s2_b])
  have c3_a_1 : w3.cell? ⟨w.heap.size, 1, none⟩ = some (.int .u64 a0_1) := (by rw [hc3 _ _ (by first | omega | (simp; done) | (simp; omega))]; simp [go_sem, c2_a_1, s2_a, s2_b])
  have c3_b_0 : w3.cell? ⟨w.heap.size + 1, 0, none⟩ = some (.int .i64 a1_0) := (by rw [hc3 _ _ (by first | omega | (simp; done) | (simp; omega))]; simp [go_sem, c2_b_0, s2_a, s2_b])
  have c3_b_1 : w3.cell? ⟨w.heap.size + 1, 1, none⟩ = some (.int .u64 a1_1) := (by rw [hc3 _ _ (by first | omega | (simp; done) | (simp; omega))]; simp [go_sem, c2_b_1, s2_a, s2_b])
  go_wp2_with fail
  (go_ret; exact ⟨rfl, by repeat (with_reducible first | apply pw_below_drewN | apply below_drew1 | apply below_alloc | exact Below.refl _ _ | (refine below_set ?_ (by first | omega | (simp; omega))) | (refine below_next ?_ (by assumption)))⟩)
set_option maxHeartbeats 4000000 in
set_option maxRecDepth 100000 in
theorem TimesRefused_w1 (a0_0 a0_1 a1_0 a1_1 p1 p2 ee : Int) (w : World) (hM : Mul.f a0_0 a0_1 a1_0 a1_1 = some (p1, p2, ee)) (sa : Int) (hSA : WF.Sign.f a0_0 a0_1 = some sa) (ha : (sa == 0) = false) (hSB : WF.Sign.f a1_0 a1_1 = some 0) (he : (ee == 0) = true) :
    Calls Try.prog 10 #[.agg #[.int .i64 a0_0, .int .u64 a0_1], .agg #[.int .i64 a1_0, .int .u64 a1_1]] w fun e w' => e = .returned (.bool true) ∧ Below w.heap.size w w' := by
  have HW := fun W => Lib.hid (awake.calls W)
  have HM := fun W => Lib.hid (Mul.calls _ _ _ _ _ _ _ W hM)
  have HSA := fun W => Lib.hid (WF.Sign.calls _ _ _ W hSA)
  have HSB := fun W => Lib.hid (WF.Sign.calls _ _ _ W hSB)
  clear hM hSA hSB
  go_enter Try.func10, Try.ntmps10
  go_wp2_with fail
  refine ((HW _).out).mono ?_
  rintro e w1 ⟨rfl, hb1⟩
  obtain ⟨hc1, hf1⟩ := bcell hb1
  have s1_a : w.heap.size < w1.heap.size := (by have := hb1.size; (try simp at this); omega)
  have s1_b : w.heap.size + 1 < w1.heap.size := (by have := hb1.size; (try simp at this); omega)
  have c1_a_0 : w1.cell? ⟨w.heap.size, 0, none⟩ = some (.int .i64 a0_0) := (by rw [hc1 _ _ (by first | omega | (simp; done) | (simp; omega))]; simp [go_sem])
  have c1_a_1 : w1.cell? ⟨w.heap.size, 1, none⟩ = some (.int .u64 a0_1) := (by rw [hc1 _ _ (by first | omega | (simp; done) | (simp; omega))]; simp [go_sem])
  have c1_b_0 : w1.cell? ⟨w.heap.size + 1, 0, none⟩ = some (.int .i64 a1_0) := (by rw [hc1 _ _ (by first | omega | (simp; done) | (simp; omega))]; simp [go_sem])
  have c1_b_1 : w1.cell? ⟨w.heap.size + 1, 1, none⟩ = some (.int .u64 a1_1) := (by rw [hc1 _ _ (by first | omega | (simp; done) | (simp; omega))]; simp [go_sem])
  go_wp2_with fail
  refine ((HM _).out).mono ?_
  rintro e w2 ⟨rfl, hb2⟩
  obtain ⟨hc2, hf2⟩ := bcell hb2
  have s2_a : w.heap.size < w2.heap.size := (by have := hb2.size; (try simp at this); omega)
  have s2_b : w.heap.size + 1 < w2.heap.size := (by have := hb2.size; (try simp at this); omega)
  have c2_a_0 : w2.cell? ⟨w.heap.size, 0, none⟩ = some (.int .i64 a0_0) := (by rw [hc2 _ _ (by first | omega | (simp; done) | (simp; omega))]; simp [go_sem, c1_a_0, s1_a, s1_b])
  have c2_a_1 : w2.cell? ⟨w.heap.size, 1, none⟩ = some (.int .u64 a0_1) := (by rw [hc2 _ _ (by first | omega | (simp; done) | (simp; omega))]; simp [go_sem, c1_a_1, s1_a, s1_b])
  have c2_b_0 : w2.cell? ⟨w.heap.size + 1, 0, none⟩ = some (.int .i64 a1_0) := (by rw [hc2 _ _ (by first | omega | (simp; done) | (simp; omega))]; simp [go_sem, c1_b_0, s1_a, s1_b])
  have c2_b_1 : w2.cell? ⟨w.heap.size + 1, 1, none⟩ = some (.int .u64 a1_1) := (by rw [hc2 _ _ (by first | omega | (simp; done) | (simp; omega))]; simp [go_sem, c1_b_1, s1_a, s1_b])
  go_wp2_with fail
  refine ((HSA _).out).mono ?_
  rintro e w3 ⟨rfl, hb3⟩
  obtain ⟨hc3, hf3⟩ := bcell hb3
  have s3_a : w.heap.size < w3.heap.size := (by have := hb3.size; (try simp at this); omega)
  have s3_b : w.heap.size + 1 < w3.heap.size := (by have := hb3.size; (try simp at this); omega)
  have c3_a_0 : w3.cell? ⟨w.heap.size, 0, none⟩ = some (.int .i64 a0_0) := (by rw [hc3 _ _ (by first | omega | (simp; done) | (simp; omega))]; simp [go_sem, c2_a_0, s2_a, s2_b])
  have c3_a_1 : w3.cell? ⟨w.heap.size, 1, none⟩ = some (.int .u64 a0_1) := (by rw [hc3 _ _ (by first | omega | (simp; done) | (simp; omega))]; simp [go_sem, c2_a_1, s2_a, s2_b])
  have c3_b_0 : w3.cell? ⟨w.heap.size + 1, 0, none⟩ = some (.int .i64 a1_0) := (by rw [hc3 _ _ (by first | omega | (simp; done) | (simp; omega))]; simp [go_sem, c2_b_0, s2_a, s2_b])
  have c3_b_1 : w3.cell? ⟨w.heap.size + 1, 1, none⟩ = some (.int .u64 a1_1) := (by rw [hc3 _ _ (by first | omega | (simp; done) | (simp; omega))]; simp [go_sem, c2_b_1, s2_a, s2_b])
  go_wp2_with fail
  refine ((HSB _).out).mono ?_
  rintro e w4 ⟨rfl, hb4⟩
  obtain ⟨hc4, hf4⟩ := bcell hb4
  have s4_a : w.heap.size < w4.heap.size := (by have := hb4.size; (try simp at this); omega)
  have s4_b : w.heap.size + 1 < w4.heap.size := (by have := hb4.size; (try simp at this); omega)
  have c4_a_0 : w4.cell? ⟨w.heap.size, 0, none⟩ = some (.int .i64 a0_0) := (by rw [hc4 _ _ (by first | omega | (simp; done) | (simp; omega))]; simp [go_sem, c3_a_0, s3_a, s3_b])
  have c4_a_1 : w4.cell? ⟨w.heap.size, 1, none⟩ = some (.int .u64 a0_1) := (by rw [hc4 _ _ (by first | omega | (simp; done) | (simp; omega))]; simp [go_sem, c3_a_1, s3_a, s3_b])
  have c4_b_0 : w4.cell? ⟨w.heap.size + 1, 0, none⟩ = some (.int .i64 a1_0) := (by rw [hc4 _ _ (by first | omega | (simp; done) | (simp; omega))]; simp [go_sem, c3_b_0, s3_a, s3_b])
  have c4_b_1 : w4.cell? ⟨w.heap.size + 1, 1, none⟩ = some (.int .u64 a1_1) := (by rw [hc4 _ _ (by first | omega | (simp; done) | (simp; omega))]; simp [go_sem, c3_b_1, s3_a, s3_b])
  go_wp2_with fail
  (go_ret; exact ⟨rfl, by repeat (with_reducible first | apply pw_below_drewN | apply below_drew1 | apply below_alloc | exact Below.refl _ _ | (refine below_set ?_ (by first | omega | (simp; omega))) | (refine below_next ?_ (by assumption)))⟩)
set_option maxHeartbeats 4000000 in
set_option maxRecDepth 100000 in
theorem TimesRefused_w3 (a0_0 a0_1 a1_0 a1_1 p1 p2 ee : Int) (w : World) (hM : Mul.f a0_0 a0_1 a1_0 a1_1 = some (p1, p2, ee)) (sa sb : Int) (hSA : WF.Sign.f a0_0 a0_1 = some sa) (ha : (sa == 0) = false) (hSB : WF.Sign.f a1_0 a1_1 = some sb) (hb : (sb == 0) = false) (hd : (sa != sb) = true) (hn : (a1_0 == -1 && a1_1 == 18446744073709551615) = false) (m1 m2 : Int) (hD : Div.f (-9223372036854775808) 0 a1_0 a1_1 2 = some (m1, m2, 0)) (u : Bool) (hu : (ee == 0) = u) (hN : nearer.f m1 m2 a0_0 a0_1 = some !u) :
    Calls Try.prog 10 #[.agg #[.int .i64 a0_0, .int .u64 a0_1], .agg #[.int .i64 a1_0, .int .u64 a1_1]] w fun e w' => e = .returned (.bool true) ∧ Below w.heap.size w w' := by
  have HW := fun W => Lib.hid (awake.calls W)
  have HM := fun W => Lib.hid (Mul.calls _ _ _ _ _ _ _ W hM)
  have HSA := fun W => Lib.hid (WF.Sign.calls _ _ _ W hSA)
  have HSB := fun W => Lib.hid (WF.Sign.calls _ _ _ W hSB)
  have HO := fun W => Lib.hid (WF.Of.calls (-1) (-1) 18446744073709551615 W (by decide))
  have HD := fun W => Lib.hid (Div.calls _ _ _ _ _ _ _ _ W hD)
  have HN := fun W => Lib.hid (nearer.calls _ _ _ _ _ W hN)
  clear hM hSA hSB hD hN
  cases u
  all_goals
  · go_enter Try.func10, Try.ntmps10
    go_wp2_with fail
    refine ((HW _).out).mono ?_
    rintro e w1 ⟨rfl, hb1⟩
    obtain ⟨hc1, hf1⟩ := bcell hb1
    have s1_a : w.heap.size < w1.heap.size := (by have := hb1.size; (try simp at this); omega)
    have s1_b : w.heap.size + 1 < w1.heap.size := (by have := hb1.size; (try simp at this); omega)
    have c1_a_0 : w1.cell? ⟨w.heap.size, 0, none⟩ = some (.int .i64 a0_0) := (by rw [hc1 _ _ (by first | omega | (simp; done) | (simp; omega))]; simp [go_sem])
    have c1_a_1 : w1.cell? ⟨w.heap.size, 1, none⟩ = some (.int .u64 a0_1) := (by rw [hc1 _ _ (by first | omega | (simp; done) | (simp; omega))]; simp [go_sem])
    have c1_b_0 : w1.cell? ⟨w.heap.size + 1, 0, none⟩ = some (.int .i64 a1_0) := (by rw [hc1 _ _ (by first | omega | (simp; done) | (simp; omega))]; simp [go_sem])
    have c1_b_1 : w1.cell? ⟨w.heap.size + 1, 1, none⟩ = some (.int .u64 a1_1) := (by rw [hc1 _ _ (by first | omega | (simp; done) | (simp; omega))]; simp [go_sem])
    go_wp2_with fail
    refine ((HM _).out).mono ?_
    rintro e w2 ⟨rfl, hb2⟩
    obtain ⟨hc2, hf2⟩ := bcell hb2
    have s2_a : w.heap.size < w2.heap.size := (by have := hb2.size; (try simp at this); omega)
    have s2_b : w.heap.size + 1 < w2.heap.size := (by have := hb2.size; (try simp at this); omega)
    have c2_a_0 : w2.cell? ⟨w.heap.size, 0, none⟩ = some (.int .i64 a0_0) := (by rw [hc2 _ _ (by first | omega | (simp; done) | (simp; omega))]; simp [go_sem, c1_a_0, s1_a, s1_b])
    have c2_a_1 : w2.cell? ⟨w.heap.size, 1, none⟩ = some (.int .u64 a0_1) := (by rw [hc2 _ _ (by first | omega | (simp; done) | (simp; omega))]; simp [go_sem, c1_a_1, s1_a, s1_b])
    have c2_b_0 : w2.cell? ⟨w.heap.size + 1, 0, none⟩ = some (.int .i64 a1_0) := (by rw [hc2 _ _ (by first | omega | (simp; done) | (simp; omega))]; simp [go_sem, c1_b_0, s1_a, s1_b])
    have c2_b_1 : w2.cell? ⟨w.heap.size + 1, 1, none⟩ = some (.int .u64 a1_1) := (by rw [hc2 _ _ (by first | omega | (simp; done) | (simp; omega))]; simp [go_sem, c1_b_1, s1_a, s1_b])
    go_wp2_with fail
    refine ((HSA _).out).mono ?_
    rintro e w3 ⟨rfl, hb3⟩
    obtain ⟨hc3, hf3⟩ := bcell hb3
    have s3_a : w.heap.size < w3.heap.size := (by have := hb3.size; (try simp at this); omega)
    have s3_b : w.heap.size + 1 < w3.heap.size := (by have := hb3.size; (try simp at this); omega)
    have c3_a_0 : w3.cell? ⟨w.heap.size, 0, none⟩ = some (.int .i64 a0_0) := (by rw [hc3 _ _ (by first | omega | (simp; done) | (simp; omega))]; simp [go_sem, c2_a_0, s2_a, s2_b])
    have c3_a_1 : w3.cell? ⟨w.heap.size, 1, none⟩ = some (.int .u64 a0_1) := (by rw [hc3 _ _ (by first | omega | (simp; done) | (simp; omega))]; simp [go_sem, c2_a_1, s2_a, s2_b])
    have c3_b_0 : w3.cell? ⟨w.heap.size + 1, 0, none⟩ = some (.int .i64 a1_0) := (by rw [hc3 _ _ (by first | omega | (simp; done) | (simp; omega))]; simp [go_sem, c2_b_0, s2_a, s2_b])
    have c3_b_1 : w3.cell? ⟨w.heap.size + 1, 1, none⟩ = some (.int .u64 a1_1) := (by rw [hc3 _ _ (by first | omega | (simp; done) | (simp; omega))]; simp [go_sem, c2_b_1, s2_a, s2_b])
    go_wp2_with fail
    refine ((HSB _).out).mono ?_
    rintro e w4 ⟨rfl, hb4⟩
    obtain ⟨hc4, hf4⟩ := bcell hb4
    have s4_a : w.heap.size < w4.heap.size := (by have := hb4.size; (try simp at this); omega)
    have s4_b : w.heap.size + 1 < w4.heap.size := (by have := hb4.size; (try simp at this); omega)
    have c4_a_0 : w4.cell? ⟨w.heap.size, 0, none⟩ = some (.int .i64 a0_0) := (by rw [hc4 _ _ (by first | omega | (simp; done) | (simp; omega))]; simp [go_sem, c3_a_0, s3_a, s3_b])
    have c4_a_1 : w4.cell? ⟨w.heap.size, 1, none⟩ = some (.int .u64 a0_1) := (by rw [hc4 _ _ (by first | omega | (simp; done) | (simp; omega))]; simp [go_sem, c3_a_1, s3_a, s3_b])
    have c4_b_0 : w4.cell? ⟨w.heap.size + 1, 0, none⟩ = some (.int .i64 a1_0) := (by rw [hc4 _ _ (by first | omega | (simp; done) | (simp; omega))]; simp [go_sem, c3_b_0, s3_a, s3_b])
    have c4_b_1 : w4.cell? ⟨w.heap.size + 1, 1, none⟩ = some (.int .u64 a1_1) := (by rw [hc4 _ _ (by first | omega | (simp; done) | (simp; omega))]; simp [go_sem, c3_b_1, s3_a, s3_b])
    go_wp2_with fail
    refine start_ (n := 5) (S := fun w' => w'.cell? ⟨w.heap.size, 0, none⟩ = some (.int .i64 a0_0) ∧ w'.cell? ⟨w.heap.size, 1, none⟩ = some (.int .u64 a0_1) ∧ w'.cell? ⟨w.heap.size + 1, 0, none⟩ = some (.int .i64 a1_0) ∧ w'.cell? ⟨w.heap.size + 1, 1, none⟩ = some (.int .u64 a1_1) ∧ w'.cell? ⟨w4.heap.size, 0, none⟩ = some (.int .i64 9223372036854775807) ∧ w'.cell? ⟨w4.heap.size, 1, none⟩ = some (.int .u64 18446744073709551615) ∧ w'.frozen? ⟨w4.heap.size, 0, none⟩ = false ∧ w'.frozen? ⟨w4.heap.size, 1, none⟩ = false) (ds := []) #[false, false, false, false, false] (by kernel_rfl) rfl rfl ⟨(by simp [go_sem, c4_a_0, c4_a_1, c4_b_0, c4_b_1, s4_a, s4_b]), (by simp [go_sem, c4_a_0, c4_a_1, c4_b_0, c4_b_1, s4_a, s4_b]), (by simp [go_sem, c4_a_0, c4_a_1, c4_b_0, c4_b_1, s4_a, s4_b]), (by simp [go_sem, c4_a_0, c4_a_1, c4_b_0, c4_b_1, s4_a, s4_b]), (by simp [go_sem]), (by simp [go_sem]), (by simp [go_sem]), (by simp [go_sem])⟩ (fun hHeld => ?_)
    refine take_ (i := 0) (N := some 29) (v := ?_) (a' := ?_) #[true, false, false, false, false] rfl rfl (by kernel_rfl) (fun _ _ _ h => h) (Or.inl ⟨by rfl, ?_⟩) hHeld ?_ ?_
    rotate_left
    · rintro w' ⟨s0, s1, s2, s3, s4, s5, s6, s7⟩
      go_simp
      with_reducible rfl
    rotate_left
    · simp only [Act.put, List.setIfInBounds_toArray, List.set_cons_zero, List.set_cons_succ, i64_w, i32_w]
      rfl
    refine take_ (i := 2) (N := some 31) (v := ?_) (a' := ?_) #[true, false, true, false, false] rfl rfl (by kernel_rfl) (fun _ _ _ h => h) (Or.inl ⟨by rfl, ?_⟩) hHeld ?_ ?_
    rotate_left
    · rintro w' ⟨s0, s1, s2, s3, s4, s5, s6, s7⟩
      go_simp
      with_reducible rfl
    rotate_left
    · simp only [Act.put, List.setIfInBounds_toArray, List.set_cons_zero, List.set_cons_succ, i64_w, i32_w]
      rfl
    refine one_ (i := 1) (N := some 30) #[true, true, true, false, false] rfl rfl (by kernel_rfl) (by decide) (fun K hK => ?_)
    refine goes_ Try.func22 (by kernel_rfl) rfl #[.agg #[.int .i64 a0_0, .int .u64 a0_1]] (by rfl) rfl rfl (by simp only [List.map_toArray, List.map_cons, List.map_nil]; rfl) ?_
    with_reducible refine ((HSA _).out).mono ?_
    rintro e w5_0 ⟨rfl, hb5_0⟩
    refine ⟨_, rfl, ?_⟩
    obtain ⟨hh0, hh1, hh2, hh3, hh4, hh5, hh6, hh7⟩ := hHeld
    refine hK.out _ _ ⟨keepc hb5_0 (by assumption), keepc hb5_0 (by assumption), keepc hb5_0 (by assumption), keepc hb5_0 (by assumption), keepc hb5_0 (by assumption), keepc hb5_0 (by assumption), keepf hb5_0 (by assumption) (by assumption), keepf hb5_0 (by assumption) (by assumption)⟩ (fun hHeld => ?_)
    clear hK K
    refine norm_ (a' := ?_) ?_ ?_
    rotate_left
    · show Act.put _ (some 30) _ = _
      simp only [Act.put, List.setIfInBounds_toArray, List.set_cons_zero, List.set_cons_succ, i64_w, i32_w]
      rfl
    refine one_ (i := 3) (N := some 32) #[true, true, true, true, false] rfl rfl (by kernel_rfl) (by decide) (fun K hK => ?_)
    refine goes_ Try.func22 (by kernel_rfl) rfl #[.agg #[.int .i64 a1_0, .int .u64 a1_1]] (by rfl) rfl rfl (by simp only [List.map_toArray, List.map_cons, List.map_nil]; rfl) ?_
    with_reducible refine ((HSB _).out).mono ?_
    rintro e w5 ⟨rfl, hb5⟩
    refine ⟨_, rfl, ?_⟩
    obtain ⟨hh0, hh1, hh2, hh3, hh4, hh5, hh6, hh7⟩ := hHeld
    refine hK.out _ _ ⟨keepc hb5 (by assumption), keepc hb5 (by assumption), keepc hb5 (by assumption), keepc hb5 (by assumption), keepc hb5 (by assumption), keepc hb5 (by assumption), keepf hb5 (by assumption) (by assumption), keepf hb5 (by assumption) (by assumption)⟩ (fun hHeld => ?_)
    clear hK K
    refine norm_ (a' := ?_) ?_ ?_
    rotate_left
    · show Act.put _ (some 32) _ = _
      simp only [Act.put, List.setIfInBounds_toArray, List.set_cons_zero, List.set_cons_succ, i64_w, i32_w]
      rfl
    refine pure_ (i := 4) (N := some 33) (v := ?_) (a' := ?_) #[true, true, true, true, true] rfl rfl (by kernel_rfl) (fun _ _ _ h => h) (Or.inl ⟨by rfl, ?_⟩) ?_ ?_
    rotate_left
    · intro w'
      go_simp
      with_reducible rfl
    rotate_left
    · simp only [Act.put, List.setIfInBounds_toArray, List.set_cons_zero, List.set_cons_succ, i64_w, i32_w]
      rfl
    refine done_ (by kernel_rfl) ?_
    obtain ⟨c5_a_0, c5_a_1, c5_b_0, c5_b_1, c5_e_0, c5_e_1, f5_e_0, f5_e_1⟩ := hHeld
    have s5_a : w.heap.size < w5.heap.size := World.block_lt_of_cell? _ ⟨w.heap.size, 0, none⟩ c5_a_0
    have s5_b : w.heap.size + 1 < w5.heap.size := World.block_lt_of_cell? _ ⟨w.heap.size + 1, 0, none⟩ c5_b_0
    have s5_e : w4.heap.size < w5.heap.size := World.block_lt_of_cell? _ ⟨w4.heap.size, 0, none⟩ c5_e_0
    go_wp2_with fail
    have ne_a : (w.heap.size = w4.heap.size) = False := eq_false (by omega)
    have ne_b : (w.heap.size + 1 = w4.heap.size) = False := eq_false (by omega)
    have ne_a' : (w4.heap.size = w.heap.size) = False := eq_false (by omega)
    have ne_b' : (w4.heap.size = w.heap.size + 1) = False := eq_false (by omega)
    refine start_ (n := 8) (S := fun w' => w'.cell? ⟨w.heap.size, 0, none⟩ = some (.int .i64 a0_0) ∧ w'.cell? ⟨w.heap.size, 1, none⟩ = some (.int .u64 a0_1) ∧ w'.cell? ⟨w.heap.size + 1, 0, none⟩ = some (.int .i64 a1_0) ∧ w'.cell? ⟨w.heap.size + 1, 1, none⟩ = some (.int .u64 a1_1) ∧ w'.cell? ⟨w4.heap.size, 0, none⟩ = some (.int .i64 (-9223372036854775808)) ∧ w'.cell? ⟨w4.heap.size, 1, none⟩ = some (.int .u64 0)) (ds := []) #[false, false, false, false, false, false, false, false] (by kernel_rfl) rfl rfl ⟨(by simp [go_sem, c5_a_0, c5_a_1, c5_b_0, c5_b_1, s5_a, s5_b, ne_a, ne_b, ne_a', ne_b']), (by simp [go_sem, c5_a_0, c5_a_1, c5_b_0, c5_b_1, s5_a, s5_b, ne_a, ne_b, ne_a', ne_b']), (by simp [go_sem, c5_a_0, c5_a_1, c5_b_0, c5_b_1, s5_a, s5_b, ne_a, ne_b, ne_a', ne_b']), (by simp [go_sem, c5_a_0, c5_a_1, c5_b_0, c5_b_1, s5_a, s5_b, ne_a, ne_b, ne_a', ne_b']), (by simp [go_sem, c5_e_0, c5_e_1]), (by simp [go_sem, c5_e_0, c5_e_1])⟩ (fun hHeld => ?_)
    refine pure_ (i := 0) (N := some 35) (v := ?_) (a' := ?_) #[true, false, false, false, false, false, false, false] rfl rfl (by kernel_rfl) (fun _ _ _ h => h) (Or.inl ⟨by rfl, ?_⟩) ?_ ?_
    rotate_left
    · intro w'
      go_simp
      with_reducible rfl
    rotate_left
    · simp only [Act.put, List.setIfInBounds_toArray, List.set_cons_zero, List.set_cons_succ, i64_w, i32_w]
      rfl
    refine take_ (i := 1) (N := some 36) (v := ?_) (a' := ?_) #[true, true, false, false, false, false, false, false] rfl rfl (by kernel_rfl) (fun _ _ _ h => h) (Or.inl ⟨by rfl, ?_⟩) hHeld ?_ ?_
    rotate_left
    · rintro w' ⟨s0, s1, s2, s3, s4, s5⟩
      go_simp
      with_reducible rfl
    rotate_left
    · simp only [Act.put, List.setIfInBounds_toArray, List.set_cons_zero, List.set_cons_succ, i64_w, i32_w]
      rfl
    refine pure_ (i := 2) (N := some 37) (v := ?_) (a' := ?_) #[true, true, true, false, false, false, false, false] rfl rfl (by kernel_rfl) (fun _ _ _ h => h) (Or.inl ⟨by rfl, ?_⟩) ?_ ?_
    rotate_left
    · intro w'
      go_simp
      with_reducible rfl
    rotate_left
    · simp only [Act.put, List.setIfInBounds_toArray, List.set_cons_zero, List.set_cons_succ, i64_w, i32_w]
      rfl
    refine pure_ (i := 3) (N := some 38) (v := ?_) (a' := ?_) #[true, true, true, true, false, false, false, false] rfl rfl (by kernel_rfl) (fun _ _ _ h => h) (Or.inl ⟨by rfl, ?_⟩) ?_ ?_
    rotate_left
    · intro w'
      go_simp
      with_reducible rfl
    rotate_left
    · simp only [Act.put, List.setIfInBounds_toArray, List.set_cons_zero, List.set_cons_succ, i64_w, i32_w]
      rfl
    refine take_ (i := 4) (N := some 39) (v := ?_) (a' := ?_) #[true, true, true, true, true, false, false, false] rfl rfl (by kernel_rfl) (fun _ _ _ h => h) (Or.inl ⟨by rfl, ?_⟩) hHeld ?_ ?_
    rotate_left
    · rintro w' ⟨s0, s1, s2, s3, s4, s5⟩
      go_simp
      with_reducible rfl
    rotate_left
    · simp only [Act.put, List.setIfInBounds_toArray, List.set_cons_zero, List.set_cons_succ, i64_w, i32_w]
      rfl
    refine one_ (i := 5) (N := some 40) #[true, true, true, true, true, true, false, false] rfl rfl (by kernel_rfl) (by decide) (fun K hK => ?_)
    refine goes_ Try.func20 (by kernel_rfl) rfl #[.int .i64 (-1)] (by rfl) rfl rfl (by simp only [List.map_toArray, List.map_cons, List.map_nil]; rfl) ?_
    with_reducible refine ((HO _).out).mono ?_
    rintro e w6 ⟨rfl, hb6⟩
    refine ⟨_, rfl, ?_⟩
    obtain ⟨hh0, hh1, hh2, hh3, hh4, hh5⟩ := hHeld
    refine hK.out _ _ ⟨keepc hb6 (by assumption), keepc hb6 (by assumption), keepc hb6 (by assumption), keepc hb6 (by assumption), keepc hb6 (by assumption), keepc hb6 (by assumption)⟩ (fun hHeld => ?_)
    clear hK K
    refine norm_ (a' := ?_) ?_ ?_
    rotate_left
    · show Act.put _ (some 40) _ = _
      simp only [Act.put, List.setIfInBounds_toArray, List.set_cons_zero, List.set_cons_succ, i64_w, i32_w]
      rfl
    refine pure_ (i := 6) (N := some 41) (v := ?_) (a' := ?_) #[true, true, true, true, true, true, true, false] rfl rfl (by kernel_rfl) (fun _ _ _ h => h) (Or.inl ⟨by rfl, ?_⟩) ?_ ?_
    rotate_left
    · intro w'
      go_simp
      with_reducible rfl
    rotate_left
    · simp only [Act.put, List.setIfInBounds_toArray, List.set_cons_zero, List.set_cons_succ, i64_w, i32_w]
      rfl
    refine pure_ (i := 7) (N := some 42) (v := ?_) (a' := ?_) #[true, true, true, true, true, true, true, true] rfl rfl (by kernel_rfl) (fun _ _ _ h => h) (Or.inl ⟨by rfl, ?_⟩) ?_ ?_
    rotate_left
    · intro w'
      go_simp
      with_reducible rfl
    rotate_left
    · simp only [Act.put, List.setIfInBounds_toArray, List.set_cons_zero, List.set_cons_succ, i64_w, i32_w]
      rfl
    refine done_ (by kernel_rfl) ?_
    obtain ⟨c6_a_0, c6_a_1, c6_b_0, c6_b_1, c6_e_0, c6_e_1⟩ := hHeld
    have s6_a : w.heap.size < w6.heap.size := World.block_lt_of_cell? _ ⟨w.heap.size, 0, none⟩ c6_a_0
    have s6_b : w.heap.size + 1 < w6.heap.size := World.block_lt_of_cell? _ ⟨w.heap.size + 1, 0, none⟩ c6_b_0
    have s6_e : w4.heap.size < w6.heap.size := World.block_lt_of_cell? _ ⟨w4.heap.size, 0, none⟩ c6_e_0
    go_wp2_with fail
    refine ((HD _).out).mono ?_
    rintro e w7 ⟨rfl, hb7⟩
    obtain ⟨hc7, hf7⟩ := bcell hb7
    have s7_a : w.heap.size < w7.heap.size := (by have := hb7.size; (try simp at this); omega)
    have s7_b : w.heap.size + 1 < w7.heap.size := (by have := hb7.size; (try simp at this); omega)
    have s7_e : w4.heap.size < w7.heap.size := (by have := hb7.size; (try simp at this); omega)
    have c7_a_0 : w7.cell? ⟨w.heap.size, 0, none⟩ = some (.int .i64 a0_0) := (by rw [hc7 _ _ (by first | omega | (simp; done) | (simp; omega))]; simp [go_sem, c6_a_0, s6_a, s6_b, s6_e])
    have c7_a_1 : w7.cell? ⟨w.heap.size, 1, none⟩ = some (.int .u64 a0_1) := (by rw [hc7 _ _ (by first | omega | (simp; done) | (simp; omega))]; simp [go_sem, c6_a_1, s6_a, s6_b, s6_e])
    have c7_b_0 : w7.cell? ⟨w.heap.size + 1, 0, none⟩ = some (.int .i64 a1_0) := (by rw [hc7 _ _ (by first | omega | (simp; done) | (simp; omega))]; simp [go_sem, c6_b_0, s6_a, s6_b, s6_e])
    have c7_b_1 : w7.cell? ⟨w.heap.size + 1, 1, none⟩ = some (.int .u64 a1_1) := (by rw [hc7 _ _ (by first | omega | (simp; done) | (simp; omega))]; simp [go_sem, c6_b_1, s6_a, s6_b, s6_e])
    have c7_e_0 : w7.cell? ⟨w4.heap.size, 0, none⟩ = some (.int .i64 (-9223372036854775808)) := (by rw [hc7 _ _ (by first | omega | (simp; done) | (simp; omega))]; simp [go_sem, c6_e_0, s6_a, s6_b, s6_e])
    have c7_e_1 : w7.cell? ⟨w4.heap.size, 1, none⟩ = some (.int .u64 0) := (by rw [hc7 _ _ (by first | omega | (simp; done) | (simp; omega))]; simp [go_sem, c6_e_1, s6_a, s6_b, s6_e])
    go_wp2_with fail
    refine ((HN _).out).mono ?_
    rintro e w8 ⟨rfl, hb8⟩
    obtain ⟨hc8, hf8⟩ := bcell hb8
    have s8_a : w.heap.size < w8.heap.size := (by have := hb8.size; (try simp at this); omega)
    have s8_b : w.heap.size + 1 < w8.heap.size := (by have := hb8.size; (try simp at this); omega)
    have s8_e : w4.heap.size < w8.heap.size := (by have := hb8.size; (try simp at this); omega)
    have s8_m : w7.heap.size < w8.heap.size := (by have := hb8.size; (try simp at this); omega)
    have c8_a_0 : w8.cell? ⟨w.heap.size, 0, none⟩ = some (.int .i64 a0_0) := (by rw [hc8 _ _ (by first | omega | (simp; done) | (simp; omega))]; simp [go_sem, c7_a_0, s7_a, s7_b, s7_e])
    have c8_a_1 : w8.cell? ⟨w.heap.size, 1, none⟩ = some (.int .u64 a0_1) := (by rw [hc8 _ _ (by first | omega | (simp; done) | (simp; omega))]; simp [go_sem, c7_a_1, s7_a, s7_b, s7_e])
    have c8_b_0 : w8.cell? ⟨w.heap.size + 1, 0, none⟩ = some (.int .i64 a1_0) := (by rw [hc8 _ _ (by first | omega | (simp; done) | (simp; omega))]; simp [go_sem, c7_b_0, s7_a, s7_b, s7_e])
    have c8_b_1 : w8.cell? ⟨w.heap.size + 1, 1, none⟩ = some (.int .u64 a1_1) := (by rw [hc8 _ _ (by first | omega | (simp; done) | (simp; omega))]; simp [go_sem, c7_b_1, s7_a, s7_b, s7_e])
    have c8_e_0 : w8.cell? ⟨w4.heap.size, 0, none⟩ = some (.int .i64 (-9223372036854775808)) := (by rw [hc8 _ _ (by first | omega | (simp; done) | (simp; omega))]; simp [go_sem, c7_e_0, s7_a, s7_b, s7_e])
    have c8_e_1 : w8.cell? ⟨w4.heap.size, 1, none⟩ = some (.int .u64 0) := (by rw [hc8 _ _ (by first | omega | (simp; done) | (simp; omega))]; simp [go_sem, c7_e_1, s7_a, s7_b, s7_e])
    have c8_m_0 : w8.cell? ⟨w7.heap.size, 0, none⟩ = some (.int .i64 m1) := (by rw [hc8 _ _ (by first | omega | (simp; done) | (simp; omega))]; simp [go_sem, s7_a, s7_b, s7_e])
    have c8_m_1 : w8.cell? ⟨w7.heap.size, 1, none⟩ = some (.int .u64 m2) := (by rw [hc8 _ _ (by first | omega | (simp; done) | (simp; omega))]; simp [go_sem, s7_a, s7_b, s7_e])
    go_wp2_with fail
    (go_ret; exact ⟨rfl, by repeat (with_reducible first | apply pw_below_drewN | apply below_drew1 | apply below_alloc | exact Below.refl _ _ | (refine below_set ?_ (by first | omega | (simp; omega))) | (refine below_next ?_ (by assumption)))⟩)
set_option maxHeartbeats 4000000 in
set_option maxRecDepth 100000 in
theorem TimesRefused_w4 (a0_0 a0_1 a1_0 a1_1 p1 p2 ee : Int) (w : World) (hM : Mul.f a0_0 a0_1 a1_0 a1_1 = some (p1, p2, ee)) (sa sb : Int) (hSA : WF.Sign.f a0_0 a0_1 = some sa) (ha : (sa == 0) = false) (hSB : WF.Sign.f a1_0 a1_1 = some sb) (hb : (sb == 0) = false) (hd : (sa != sb) = false) (m1 m2 : Int) (hD : Div.f 9223372036854775807 18446744073709551615 a1_0 a1_1 2 = some (m1, m2, 0)) (u : Bool) (hu : (ee == 0) = u) (hN : nearer.f m1 m2 a0_0 a0_1 = some !u) :
    Calls Try.prog 10 #[.agg #[.int .i64 a0_0, .int .u64 a0_1], .agg #[.int .i64 a1_0, .int .u64 a1_1]] w fun e w' => e = .returned (.bool true) ∧ Below w.heap.size w w' := by
  have HW := fun W => Lib.hid (awake.calls W)
  have HM := fun W => Lib.hid (Mul.calls _ _ _ _ _ _ _ W hM)
  have HSA := fun W => Lib.hid (WF.Sign.calls _ _ _ W hSA)
  have HSB := fun W => Lib.hid (WF.Sign.calls _ _ _ W hSB)
  have HD := fun W => Lib.hid (Div.calls _ _ _ _ _ _ _ _ W hD)
  have HN := fun W => Lib.hid (nearer.calls _ _ _ _ _ W hN)
  clear hM hSA hSB hD hN
  cases u
  all_goals
  · go_enter Try.func10, Try.ntmps10
    go_wp2_with fail
    refine ((HW _).out).mono ?_
    rintro e w1 ⟨rfl, hb1⟩
    obtain ⟨hc1, hf1⟩ := bcell hb1
    have s1_a : w.heap.size < w1.heap.size := (by have := hb1.size; (try simp at this); omega)
    have s1_b : w.heap.size + 1 < w1.heap.size := (by have := hb1.size; (try simp at this); omega)
    have c1_a_0 : w1.cell? ⟨w.heap.size, 0, none⟩ = some (.int .i64 a0_0) := (by rw [hc1 _ _ (by first | omega | (simp; done) | (simp; omega))]; simp [go_sem])
    have c1_a_1 : w1.cell? ⟨w.heap.size, 1, none⟩ = some (.int .u64 a0_1) := (by rw [hc1 _ _ (by first | omega | (simp; done) | (simp; omega))]; simp [go_sem])
    have c1_b_0 : w1.cell? ⟨w.heap.size + 1, 0, none⟩ = some (.int .i64 a1_0) := (by rw [hc1 _ _ (by first | omega | (simp; done) | (simp; omega))]; simp [go_sem])
    have c1_b_1 : w1.cell? ⟨w.heap.size + 1, 1, none⟩ = some (.int .u64 a1_1) := (by rw [hc1 _ _ (by first | omega | (simp; done) | (simp; omega))]; simp [go_sem])
    go_wp2_with fail
    refine ((HM _).out).mono ?_
    rintro e w2 ⟨rfl, hb2⟩
    obtain ⟨hc2, hf2⟩ := bcell hb2
    have s2_a : w.heap.size < w2.heap.size := (by have := hb2.size; (try simp at this); omega)
    have s2_b : w.heap.size + 1 < w2.heap.size := (by have := hb2.size; (try simp at this); omega)
    have c2_a_0 : w2.cell? ⟨w.heap.size, 0, none⟩ = some (.int .i64 a0_0) := (by rw [hc2 _ _ (by first | omega | (simp; done) | (simp; omega))]; simp [go_sem, c1_a_0, s1_a, s1_b])
    have c2_a_1 : w2.cell? ⟨w.heap.size, 1, none⟩ = some (.int .u64 a0_1) := (by rw [hc2 _ _ (by first | omega | (simp; done) | (simp; omega))]; simp [go_sem, c1_a_1, s1_a, s1_b])
    have c2_b_0 : w2.cell? ⟨w.heap.size + 1, 0, none⟩ = some (.int .i64 a1_0) := (by rw [hc2 _ _ (by first | omega | (simp; done) | (simp; omega))]; simp [go_sem, c1_b_0, s1_a, s1_b])
    have c2_b_1 : w2.cell? ⟨w.heap.size + 1, 1, none⟩ = some (.int .u64 a1_1) := (by rw [hc2 _ _ (by first | omega | (simp; done) | (simp; omega))]; simp [go_sem, c1_b_1, s1_a, s1_b])
    go_wp2_with fail
    refine ((HSA _).out).mono ?_
    rintro e w3 ⟨rfl, hb3⟩
    obtain ⟨hc3, hf3⟩ := bcell hb3
    have s3_a : w.heap.size < w3.heap.size := (by have := hb3.size; (try simp at this); omega)
    have s3_b : w.heap.size + 1 < w3.heap.size := (by have := hb3.size; (try simp at this); omega)
    have c3_a_0 : w3.cell? ⟨w.heap.size, 0, none⟩ = some (.int .i64 a0_0) := (by rw [hc3 _ _ (by first | omega | (simp; done) | (simp; omega))]; simp [go_sem, c2_a_0, s2_a, s2_b])
    have c3_a_1 : w3.cell? ⟨w.heap.size, 1, none⟩ = some (.int .u64 a0_1) := (by rw [hc3 _ _ (by first | omega | (simp; done) | (simp; omega))]; simp [go_sem, c2_a_1, s2_a, s2_b])
    have c3_b_0 : w3.cell? ⟨w.heap.size + 1, 0, none⟩ = some (.int .i64 a1_0) := (by rw [hc3 _ _ (by first | omega | (simp; done) | (simp; omega))]; simp [go_sem, c2_b_0, s2_a, s2_b])
    have c3_b_1 : w3.cell? ⟨w.heap.size + 1, 1, none⟩ = some (.int .u64 a1_1) := (by rw [hc3 _ _ (by first | omega | (simp; done) | (simp; omega))]; simp [go_sem, c2_b_1, s2_a, s2_b])
    go_wp2_with fail
    refine ((HSB _).out).mono ?_
    rintro e w4 ⟨rfl, hb4⟩
    obtain ⟨hc4, hf4⟩ := bcell hb4
    have s4_a : w.heap.size < w4.heap.size := (by have := hb4.size; (try simp at this); omega)
    have s4_b : w.heap.size + 1 < w4.heap.size := (by have := hb4.size; (try simp at this); omega)
    have c4_a_0 : w4.cell? ⟨w.heap.size, 0, none⟩ = some (.int .i64 a0_0) := (by rw [hc4 _ _ (by first | omega | (simp; done) | (simp; omega))]; simp [go_sem, c3_a_0, s3_a, s3_b])
    have c4_a_1 : w4.cell? ⟨w.heap.size, 1, none⟩ = some (.int .u64 a0_1) := (by rw [hc4 _ _ (by first | omega | (simp; done) | (simp; omega))]; simp [go_sem, c3_a_1, s3_a, s3_b])
    have c4_b_0 : w4.cell? ⟨w.heap.size + 1, 0, none⟩ = some (.int .i64 a1_0) := (by rw [hc4 _ _ (by first | omega | (simp; done) | (simp; omega))]; simp [go_sem, c3_b_0, s3_a, s3_b])
    have c4_b_1 : w4.cell? ⟨w.heap.size + 1, 1, none⟩ = some (.int .u64 a1_1) := (by rw [hc4 _ _ (by first | omega | (simp; done) | (simp; omega))]; simp [go_sem, c3_b_1, s3_a, s3_b])
    go_wp2_with fail
    refine start_ (n := 5) (S := fun w' => w'.cell? ⟨w.heap.size, 0, none⟩ = some (.int .i64 a0_0) ∧ w'.cell? ⟨w.heap.size, 1, none⟩ = some (.int .u64 a0_1) ∧ w'.cell? ⟨w.heap.size + 1, 0, none⟩ = some (.int .i64 a1_0) ∧ w'.cell? ⟨w.heap.size + 1, 1, none⟩ = some (.int .u64 a1_1) ∧ w'.cell? ⟨w4.heap.size, 0, none⟩ = some (.int .i64 9223372036854775807) ∧ w'.cell? ⟨w4.heap.size, 1, none⟩ = some (.int .u64 18446744073709551615) ∧ w'.frozen? ⟨w4.heap.size, 0, none⟩ = false ∧ w'.frozen? ⟨w4.heap.size, 1, none⟩ = false) (ds := []) #[false, false, false, false, false] (by kernel_rfl) rfl rfl ⟨(by simp [go_sem, c4_a_0, c4_a_1, c4_b_0, c4_b_1, s4_a, s4_b]), (by simp [go_sem, c4_a_0, c4_a_1, c4_b_0, c4_b_1, s4_a, s4_b]), (by simp [go_sem, c4_a_0, c4_a_1, c4_b_0, c4_b_1, s4_a, s4_b]), (by simp [go_sem, c4_a_0, c4_a_1, c4_b_0, c4_b_1, s4_a, s4_b]), (by simp [go_sem]), (by simp [go_sem]), (by simp [go_sem]), (by simp [go_sem])⟩ (fun hHeld => ?_)
    refine take_ (i := 0) (N := some 29) (v := ?_) (a' := ?_) #[true, false, false, false, false] rfl rfl (by kernel_rfl) (fun _ _ _ h => h) (Or.inl ⟨by rfl, ?_⟩) hHeld ?_ ?_
    rotate_left
    · rintro w' ⟨s0, s1, s2, s3, s4, s5, s6, s7⟩
      go_simp
      with_reducible rfl
    rotate_left
    · simp only [Act.put, List.setIfInBounds_toArray, List.set_cons_zero, List.set_cons_succ, i64_w, i32_w]
      rfl
    refine take_ (i := 2) (N := some 31) (v := ?_) (a' := ?_) #[true, false, true, false, false] rfl rfl (by kernel_rfl) (fun _ _ _ h => h) (Or.inl ⟨by rfl, ?_⟩) hHeld ?_ ?_
    rotate_left
    · rintro w' ⟨s0, s1, s2, s3, s4, s5, s6, s7⟩
      go_simp
      with_reducible rfl
    rotate_left
    · simp only [Act.put, List.setIfInBounds_toArray, List.set_cons_zero, List.set_cons_succ, i64_w, i32_w]
      rfl
    refine one_ (i := 1) (N := some 30) #[true, true, true, false, false] rfl rfl (by kernel_rfl) (by decide) (fun K hK => ?_)
    refine goes_ Try.func22 (by kernel_rfl) rfl #[.agg #[.int .i64 a0_0, .int .u64 a0_1]] (by rfl) rfl rfl (by simp only [List.map_toArray, List.map_cons, List.map_nil]; rfl) ?_
    with_reducible refine ((HSA _).out).mono ?_
    rintro e w5_0 ⟨rfl, hb5_0⟩
    refine ⟨_, rfl, ?_⟩
    obtain ⟨hh0, hh1, hh2, hh3, hh4, hh5, hh6, hh7⟩ := hHeld
    refine hK.out _ _ ⟨keepc hb5_0 (by assumption), keepc hb5_0 (by assumption), keepc hb5_0 (by assumption), keepc hb5_0 (by assumption), keepc hb5_0 (by assumption), keepc hb5_0 (by assumption), keepf hb5_0 (by assumption) (by assumption), keepf hb5_0 (by assumption) (by assumption)⟩ (fun hHeld => ?_)
    clear hK K
    refine norm_ (a' := ?_) ?_ ?_
    rotate_left
    · show Act.put _ (some 30) _ = _
      simp only [Act.put, List.setIfInBounds_toArray, List.set_cons_zero, List.set_cons_succ, i64_w, i32_w]
      rfl
    refine one_ (i := 3) (N := some 32) #[true, true, true, true, false] rfl rfl (by kernel_rfl) (by decide) (fun K hK => ?_)
    refine goes_ Try.func22 (by kernel_rfl) rfl #[.agg #[.int .i64 a1_0, .int .u64 a1_1]] (by rfl) rfl rfl (by simp only [List.map_toArray, List.map_cons, List.map_nil]; rfl) ?_
    with_reducible refine ((HSB _).out).mono ?_
    rintro e w5 ⟨rfl, hb5⟩
    refine ⟨_, rfl, ?_⟩
    obtain ⟨hh0, hh1, hh2, hh3, hh4, hh5, hh6, hh7⟩ := hHeld
    refine hK.out _ _ ⟨keepc hb5 (by assumption), keepc hb5 (by assumption), keepc hb5 (by assumption), keepc hb5 (by assumption), keepc hb5 (by assumption), keepc hb5 (by assumption), keepf hb5 (by assumption) (by assumption), keepf hb5 (by assumption) (by assumption)⟩ (fun hHeld => ?_)
    clear hK K
    refine norm_ (a' := ?_) ?_ ?_
    rotate_left
    · show Act.put _ (some 32) _ = _
      simp only [Act.put, List.setIfInBounds_toArray, List.set_cons_zero, List.set_cons_succ, i64_w, i32_w]
      rfl
    refine pure_ (i := 4) (N := some 33) (v := ?_) (a' := ?_) #[true, true, true, true, true] rfl rfl (by kernel_rfl) (fun _ _ _ h => h) (Or.inl ⟨by rfl, ?_⟩) ?_ ?_
    rotate_left
    · intro w'
      go_simp
      with_reducible rfl
    rotate_left
    · simp only [Act.put, List.setIfInBounds_toArray, List.set_cons_zero, List.set_cons_succ, i64_w, i32_w]
      rfl
    refine done_ (by kernel_rfl) ?_
    obtain ⟨c5_a_0, c5_a_1, c5_b_0, c5_b_1, c5_e_0, c5_e_1, f5_e_0, f5_e_1⟩ := hHeld
    have s5_a : w.heap.size < w5.heap.size := World.block_lt_of_cell? _ ⟨w.heap.size, 0, none⟩ c5_a_0
    have s5_b : w.heap.size + 1 < w5.heap.size := World.block_lt_of_cell? _ ⟨w.heap.size + 1, 0, none⟩ c5_b_0
    have s5_e : w4.heap.size < w5.heap.size := World.block_lt_of_cell? _ ⟨w4.heap.size, 0, none⟩ c5_e_0
    go_wp2_with fail
    refine start_ (n := 8) (S := fun w' => w'.cell? ⟨w.heap.size, 0, none⟩ = some (.int .i64 a0_0) ∧ w'.cell? ⟨w.heap.size, 1, none⟩ = some (.int .u64 a0_1) ∧ w'.cell? ⟨w.heap.size + 1, 0, none⟩ = some (.int .i64 a1_0) ∧ w'.cell? ⟨w.heap.size + 1, 1, none⟩ = some (.int .u64 a1_1) ∧ w'.cell? ⟨w4.heap.size, 0, none⟩ = some (.int .i64 9223372036854775807) ∧ w'.cell? ⟨w4.heap.size, 1, none⟩ = some (.int .u64 18446744073709551615)) (ds := []) #[false, false, false, false, false, false, false, false] (by kernel_rfl) rfl rfl ⟨(by simp [go_sem, c5_a_0, c5_a_1, c5_b_0, c5_b_1, c5_e_0, c5_e_1, s5_a, s5_b, s5_e]), (by simp [go_sem, c5_a_0, c5_a_1, c5_b_0, c5_b_1, c5_e_0, c5_e_1, s5_a, s5_b, s5_e]), (by simp [go_sem, c5_a_0, c5_a_1, c5_b_0, c5_b_1, c5_e_0, c5_e_1, s5_a, s5_b, s5_e]), (by simp [go_sem, c5_a_0, c5_a_1, c5_b_0, c5_b_1, c5_e_0, c5_e_1, s5_a, s5_b, s5_e]), (by simp [go_sem, c5_a_0, c5_a_1, c5_b_0, c5_b_1, c5_e_0, c5_e_1, s5_a, s5_b, s5_e]), (by simp [go_sem, c5_a_0, c5_a_1, c5_b_0, c5_b_1, c5_e_0, c5_e_1, s5_a, s5_b, s5_e])⟩ (fun hHeld => ?_)
    refine pure_ (i := 0) (N := some 35) (v := ?_) (a' := ?_) #[true, false, false, false, false, false, false, false] rfl rfl (by kernel_rfl) (fun _ _ _ h => h) (Or.inl ⟨by rfl, ?_⟩) ?_ ?_
    rotate_left
    · intro w'
      go_simp
      with_reducible rfl
    rotate_left
    · simp only [Act.put, List.setIfInBounds_toArray, List.set_cons_zero, List.set_cons_succ, i64_w, i32_w]
      rfl
    refine take_ (i := 1) (N := some 36) (v := ?_) (a' := ?_) #[true, true, false, false, false, false, false, false] rfl rfl (by kernel_rfl) (fun _ _ _ h => h) (Or.inl ⟨by rfl, ?_⟩) hHeld ?_ ?_
    rotate_left
    · rintro w' ⟨s0, s1, s2, s3, s4, s5⟩
      go_simp
      with_reducible rfl
    rotate_left
    · simp only [Act.put, List.setIfInBounds_toArray, List.set_cons_zero, List.set_cons_succ, i64_w, i32_w]
      rfl
    refine pure_ (i := 2) (N := some 37) (v := ?_) (a' := ?_) #[true, true, true, false, false, false, false, false] rfl rfl (by kernel_rfl) (fun _ _ _ h => h) (Or.inl ⟨by rfl, ?_⟩) ?_ ?_
    rotate_left
    · intro w'
      go_simp
      with_reducible rfl
    rotate_left
    · simp only [Act.put, List.setIfInBounds_toArray, List.set_cons_zero, List.set_cons_succ, i64_w, i32_w]
      rfl
    refine pure_ (i := 3) (N := some 38) (v := ?_) (a' := ?_) #[true, true, true, true, false, false, false, false] rfl rfl (by kernel_rfl) (fun _ _ _ h => h) (Or.inl ⟨by rfl, ?_⟩) ?_ ?_
    rotate_left
    · intro w'
      go_simp
      with_reducible rfl
    rotate_left
    · simp only [Act.put, List.setIfInBounds_toArray, List.set_cons_zero, List.set_cons_succ, i64_w, i32_w]
      rfl
    refine pure_ (i := 4) (N := some 39) (v := undef) (a' := ?_) #[true, true, true, true, true, false, false, false] rfl rfl (by kernel_rfl) (fun _ _ _ h => h) (Or.inr ⟨by rfl, rfl⟩) ?_ ?_
    rotate_left
    · simp only [Act.put, List.setIfInBounds_toArray, List.set_cons_zero, List.set_cons_succ, i64_w, i32_w]
      rfl
    refine pure_ (i := 5) (N := some 40) (v := undef) (a' := ?_) #[true, true, true, true, true, true, false, false] rfl rfl (by kernel_rfl) (fun _ _ _ h => h) (Or.inr ⟨by rfl, rfl⟩) ?_ ?_
    rotate_left
    · simp only [Act.put, List.setIfInBounds_toArray, List.set_cons_zero, List.set_cons_succ, i64_w, i32_w]
      rfl
    refine pure_ (i := 6) (N := some 41) (v := undef) (a' := ?_) #[true, true, true, true, true, true, true, false] rfl rfl (by kernel_rfl) (fun _ _ _ h => h) (Or.inr ⟨by rfl, rfl⟩) ?_ ?_
    rotate_left
    · simp only [Act.put, List.setIfInBounds_toArray, List.set_cons_zero, List.set_cons_succ, i64_w, i32_w]
      rfl
    refine pure_ (i := 7) (N := some 42) (v := ?_) (a' := ?_) #[true, true, true, true, true, true, true, true] rfl rfl (by kernel_rfl) (fun _ _ _ h => h) (Or.inl ⟨by rfl, ?_⟩) ?_ ?_
    rotate_left
    · intro w'
      go_simp
      with_reducible rfl
    rotate_left
    · simp only [Act.put, List.setIfInBounds_toArray, List.set_cons_zero, List.set_cons_succ, i64_w, i32_w]
      rfl
    refine done_ (by kernel_rfl) ?_
    go_wp2_with fail
    refine ((HD _).out).mono ?_
    rintro e w7 ⟨rfl, hb7⟩
    obtain ⟨hc7, hf7⟩ := bcell hb7
    have s7_a : w.heap.size < w7.heap.size := (by have := hb7.size; (try simp at this); omega)
    have s7_b : w.heap.size + 1 < w7.heap.size := (by have := hb7.size; (try simp at this); omega)
    have s7_e : w4.heap.size < w7.heap.size := (by have := hb7.size; (try simp at this); omega)
    have c7_a_0 : w7.cell? ⟨w.heap.size, 0, none⟩ = some (.int .i64 a0_0) := (by rw [hc7 _ _ (by first | omega | (simp; done) | (simp; omega))]; simp [go_sem, c5_a_0, s5_a, s5_b, s5_e])
    have c7_a_1 : w7.cell? ⟨w.heap.size, 1, none⟩ = some (.int .u64 a0_1) := (by rw [hc7 _ _ (by first | omega | (simp; done) | (simp; omega))]; simp [go_sem, c5_a_1, s5_a, s5_b, s5_e])
    have c7_b_0 : w7.cell? ⟨w.heap.size + 1, 0, none⟩ = some (.int .i64 a1_0) := (by rw [hc7 _ _ (by first | omega | (simp; done) | (simp; omega))]; simp [go_sem, c5_b_0, s5_a, s5_b, s5_e])
    have c7_b_1 : w7.cell? ⟨w.heap.size + 1, 1, none⟩ = some (.int .u64 a1_1) := (by rw [hc7 _ _ (by first | omega | (simp; done) | (simp; omega))]; simp [go_sem, c5_b_1, s5_a, s5_b, s5_e])
    have c7_e_0 : w7.cell? ⟨w4.heap.size, 0, none⟩ = some (.int .i64 9223372036854775807) := (by rw [hc7 _ _ (by first | omega | (simp; done) | (simp; omega))]; simp [go_sem, c5_e_0, s5_a, s5_b, s5_e])
    have c7_e_1 : w7.cell? ⟨w4.heap.size, 1, none⟩ = some (.int .u64 18446744073709551615) := (by rw [hc7 _ _ (by first | omega | (simp; done) | (simp; omega))]; simp [go_sem, c5_e_1, s5_a, s5_b, s5_e])
    go_wp2_with fail
    refine ((HN _).out).mono ?_
    rintro e w8 ⟨rfl, hb8⟩
    obtain ⟨hc8, hf8⟩ := bcell hb8
    have s8_a : w.heap.size < w8.heap.size := (by have := hb8.size; (try simp at this); omega)
    have s8_b : w.heap.size + 1 < w8.heap.size := (by have := hb8.size; (try simp at this); omega)
    have s8_e : w4.heap.size < w8.heap.size := (by have := hb8.size; (try simp at this); omega)
    have s8_m : w7.heap.size < w8.heap.size := (by have := hb8.size; (try simp at this); omega)
    have c8_a_0 : w8.cell? ⟨w.heap.size, 0, none⟩ = some (.int .i64 a0_0) := (by rw [hc8 _ _ (by first | omega | (simp; done) | (simp; omega))]; simp [go_sem, c7_a_0, s7_a, s7_b, s7_e])
    have c8_a_1 : w8.cell? ⟨w.heap.size, 1, none⟩ = some (.int .u64 a0_1) := (by rw [hc8 _ _ (by first | omega | (simp; done) | (simp; omega))]; simp [go_sem, c7_a_1, s7_a, s7_b, s7_e])
    have c8_b_0 : w8.cell? ⟨w.heap.size + 1, 0, none⟩ = some (.int .i64 a1_0) := (by rw [hc8 _ _ (by first | omega | (simp; done) | (simp; omega))]; simp [go_sem, c7_b_0, s7_a, s7_b, s7_e])
    have c8_b_1 : w8.cell? ⟨w.heap.size + 1, 1, none⟩ = some (.int .u64 a1_1) := (by rw [hc8 _ _ (by first | omega | (simp; done) | (simp; omega))]; simp [go_sem, c7_b_1, s7_a, s7_b, s7_e])
    have c8_e_0 : w8.cell? ⟨w4.heap.size, 0, none⟩ = some (.int .i64 9223372036854775807) := (by rw [hc8 _ _ (by first | omega | (simp; done) | (simp; omega))]; simp [go_sem, c7_e_0, s7_a, s7_b, s7_e])
    have c8_e_1 : w8.cell? ⟨w4.heap.size, 1, none⟩ = some (.int .u64 18446744073709551615) := (by rw [hc8 _ _ (by first | omega | (simp; done) | (simp; omega))]; simp [go_sem, c7_e_1, s7_a, s7_b, s7_e])
    have c8_m_0 : w8.cell? ⟨w7.heap.size, 0, none⟩ = some (.int .i64 m1) := (by rw [hc8 _ _ (by first | omega | (simp; done) | (simp; omega))]; simp [go_sem, s7_a, s7_b, s7_e])
    have c8_m_1 : w8.cell? ⟨w7.heap.size, 1, none⟩ = some (.int .u64 m2) := (by rw [hc8 _ _ (by first | omega | (simp; done) | (simp; omega))]; simp [go_sem, s7_a, s7_b, s7_e])
    go_wp2_with fail
    (go_ret; exact ⟨rfl, by repeat (with_reducible first | apply pw_below_drewN | apply below_drew1 | apply below_alloc | exact Below.refl _ _ | (refine below_set ?_ (by first | omega | (simp; omega))) | (refine below_next ?_ (by assumption)))⟩)
set_option maxHeartbeats 4000000 in
set_option maxRecDepth 100000 in
theorem TimesRefused_w2 (a0_0 a0_1 p1 p2 ee : Int) (w : World) (hM : Mul.f a0_0 a0_1 (-1) 18446744073709551615 = some (p1, p2, ee)) (sa sb : Int) (hSA : WF.Sign.f a0_0 a0_1 = some sa) (ha : (sa == 0) = false) (hSB : WF.Sign.f (-1) 18446744073709551615 = some sb) (hb : (sb == 0) = false) (hd : (sa != sb) = true) (he : (ee == 0) = true) :
    Calls Try.prog 10 #[.agg #[.int .i64 a0_0, .int .u64 a0_1], .agg #[.int .i64 (-1), .int .u64 18446744073709551615]] w fun e w' => e = .returned (.bool true) ∧ Below w.heap.size w w' := by
  have HW := fun W => Lib.hid (awake.calls W)
  have HM := fun W => Lib.hid (Mul.calls _ _ _ _ _ _ _ W hM)
  have HSA := fun W => Lib.hid (WF.Sign.calls _ _ _ W hSA)
  have HSB := fun W => Lib.hid (WF.Sign.calls _ _ _ W hSB)
  have HO := fun W => Lib.hid (WF.Of.calls (-1) (-1) 18446744073709551615 W (by decide))
  clear hM hSA hSB
  go_enter Try.func10, Try.ntmps10
  go_wp2_with fail
  refine ((HW _).out).mono ?_
  rintro e w1 ⟨rfl, hb1⟩
  obtain ⟨hc1, hf1⟩ := bcell hb1
  have s1_a : w.heap.size < w1.heap.size := (by have := hb1.size; (try simp at this); omega)
  have s1_b : w.heap.size + 1 < w1.heap.size := (by have := hb1.size; (try simp at this); omega)
  have c1_a_0 : w1.cell? ⟨w.heap.size, 0, none⟩ = some (.int .i64 a0_0) := (by rw [hc1 _ _ (by first | omega | (simp; done) | (simp; omega))]; simp [go_sem])
  have c1_a_1 : w1.cell? ⟨w.heap.size, 1, none⟩ = some (.int .u64 a0_1) := (by rw [hc1 _ _ (by first | omega | (simp; done) | (simp; omega))]; simp [go_sem])
  have c1_b_0 : w1.cell? ⟨w.heap.size + 1, 0, none⟩ = some (.int .i64 (-1)) := (by rw [hc1 _ _ (by first | omega | (simp; done) | (simp; omega))]; simp [go_sem])
  have c1_b_1 : w1.cell? ⟨w.heap.size + 1, 1, none⟩ = some (.int .u64 18446744073709551615) := (by rw [hc1 _ _ (by first | omega | (simp; done) | (simp; omega))]; simp [go_sem])
  go_wp2_with fail
  refine ((HM _).out).mono ?_
  rintro e w2 ⟨rfl, hb2⟩
  obtain ⟨hc2, hf2⟩ := bcell hb2
  have s2_a : w.heap.size < w2.heap.size := (by have := hb2.size; (try simp at this); omega)
  have s2_b : w.heap.size + 1 < w2.heap.size := (by have := hb2.size; (try simp at this); omega)
  have c2_a_0 : w2.cell? ⟨w.heap.size, 0, none⟩ = some (.int .i64 a0_0) := (by rw [hc2 _ _ (by first | omega | (simp; done) | (simp; omega))]; simp [go_sem, c1_a_0, s1_a, s1_b])
  have c2_a_1 : w2.cell? ⟨w.heap.size, 1, none⟩ = some (.int .u64 a0_1) := (by rw [hc2 _ _ (by first | omega | (simp; done) | (simp; omega))]; simp [go_sem, c1_a_1, s1_a, s1_b])
  have c2_b_0 : w2.cell? ⟨w.heap.size + 1, 0, none⟩ = some (.int .i64 (-1)) := (by rw [hc2 _ _ (by first | omega | (simp; done) | (simp; omega))]; simp [go_sem, c1_b_0, s1_a, s1_b])
  have c2_b_1 : w2.cell? ⟨w.heap.size + 1, 1, none⟩ = some (.int .u64 18446744073709551615) := (by rw [hc2 _ _ (by first | omega | (simp; done) | (simp; omega))]; simp [go_sem, c1_b_1, s1_a, s1_b])
  go_wp2_with fail
  refine ((HSA _).out).mono ?_
  rintro e w3 ⟨rfl, hb3⟩
  obtain ⟨hc3, hf3⟩ := bcell hb3
  have s3_a : w.heap.size < w3.heap.size := (by have := hb3.size; (try simp at this); omega)
  have s3_b : w.heap.size + 1 < w3.heap.size := (by have := hb3.size; (try simp at this); omega)
  have c3_a_0 : w3.cell? ⟨w.heap.size, 0, none⟩ = some (.int .i64 a0_0) := (by rw [hc3 _ _ (by first | omega | (simp; done) | (simp; omega))]; simp [go_sem, c2_a_0, s2_a, s2_b])
  have c3_a_1 : w3.cell? ⟨w.heap.size, 1, none⟩ = some (.int .u64 a0_1) := (by rw [hc3 _ _ (by first | omega | (simp; done) | (simp; omega))]; simp [go_sem, c2_a_1, s2_a, s2_b])
  have c3_b_0 : w3.cell? ⟨w.heap.size + 1, 0, none⟩ = some (.int .i64 (-1)) := (by rw [hc3 _ _ (by first | omega | (simp; done) | (simp; omega))]; simp [go_sem, c2_b_0, s2_a, s2_b])
  have c3_b_1 : w3.cell? ⟨w.heap.size + 1, 1, none⟩ = some (.int .u64 18446744073709551615) := (by rw [hc3 _ _ (by first | omega | (simp; done) | (simp; omega))]; simp [go_sem, c2_b_1, s2_a, s2_b])
  go_wp2_with fail
  refine ((HSB _).out).mono ?_
  rintro e w4 ⟨rfl, hb4⟩
  obtain ⟨hc4, hf4⟩ := bcell hb4
  have s4_a : w.heap.size < w4.heap.size := (by have := hb4.size; (try simp at this); omega)
  have s4_b : w.heap.size + 1 < w4.heap.size := (by have := hb4.size; (try simp at this); omega)
  have c4_a_0 : w4.cell? ⟨w.heap.size, 0, none⟩ = some (.int .i64 a0_0) := (by rw [hc4 _ _ (by first | omega | (simp; done) | (simp; omega))]; simp [go_sem, c3_a_0, s3_a, s3_b])
  have c4_a_1 : w4.cell? ⟨w.heap.size, 1, none⟩ = some (.int .u64 a0_1) := (by rw [hc4 _ _ (by first | omega | (simp; done) | (simp; omega))]; simp [go_sem, c3_a_1, s3_a, s3_b])
  have c4_b_0 : w4.cell? ⟨w.heap.size + 1, 0, none⟩ = some (.int .i64 (-1)) := (by rw [hc4 _ _ (by first | omega | (simp; done) | (simp; omega))]; simp [go_sem, c3_b_0, s3_a, s3_b])
  have c4_b_1 : w4.cell? ⟨w.heap.size + 1, 1, none⟩ = some (.int .u64 18446744073709551615) := (by rw [hc4 _ _ (by first | omega | (simp; done) | (simp; omega))]; simp [go_sem, c3_b_1, s3_a, s3_b])
  go_wp2_with fail
  refine start_ (n := 5) (S := fun w' => w'.cell? ⟨w.heap.size, 0, none⟩ = some (.int .i64 a0_0) ∧ w'.cell? ⟨w.heap.size, 1, none⟩ = some (.int .u64 a0_1) ∧ w'.cell? ⟨w.heap.size + 1, 0, none⟩ = some (.int .i64 (-1)) ∧ w'.cell? ⟨w.heap.size + 1, 1, none⟩ = some (.int .u64 18446744073709551615) ∧ w'.cell? ⟨w4.heap.size, 0, none⟩ = some (.int .i64 9223372036854775807) ∧ w'.cell? ⟨w4.heap.size, 1, none⟩ = some (.int .u64 18446744073709551615) ∧ w'.frozen? ⟨w4.heap.size, 0, none⟩ = false ∧ w'.frozen? ⟨w4.heap.size, 1, none⟩ = false) (ds := []) #[false, false, false, false, false] (by kernel_rfl) rfl rfl ⟨(by simp [go_sem, c4_a_0, c4_a_1, c4_b_0, c4_b_1, s4_a, s4_b]), (by simp [go_sem, c4_a_0, c4_a_1, c4_b_0, c4_b_1, s4_a, s4_b]), (by simp [go_sem, c4_a_0, c4_a_1, c4_b_0, c4_b_1, s4_a, s4_b]), (by simp [go_sem, c4_a_0, c4_a_1, c4_b_0, c4_b_1, s4_a, s4_b]), (by simp [go_sem]), (by simp [go_sem]), (by simp [go_sem]), (by simp [go_sem])⟩ (fun hHeld => ?_)
  refine take_ (i := 0) (N := some 29) (v := ?_) (a' := ?_) #[true, false, false, false, false] rfl rfl (by kernel_rfl) (fun _ _ _ h => h) (Or.inl ⟨by rfl, ?_⟩) hHeld ?_ ?_
  rotate_left
  · rintro w' ⟨s0, s1, s2, s3, s4, s5, s6, s7⟩
    go_simp
    with_reducible rfl
  rotate_left
  · simp only [Act.put, List.setIfInBounds_toArray, List.set_cons_zero, List.set_cons_succ, i64_w, i32_w]
    rfl
  refine take_ (i := 2) (N := some 31) (v := ?_) (a' := ?_) #[true, false, true, false, false] rfl rfl (by kernel_rfl) (fun _ _ _ h => h) (Or.inl ⟨by rfl, ?_⟩) hHeld ?_ ?_
  rotate_left
  · rintro w' ⟨s0, s1, s2, s3, s4, s5, s6, s7⟩
    go_simp
    with_reducible rfl
  rotate_left
  · simp only [Act.put, List.setIfInBounds_toArray, List.set_cons_zero, List.set_cons_succ, i64_w, i32_w]
    rfl
  refine one_ (i := 1) (N := some 30) #[true, true, true, false, false] rfl rfl (by kernel_rfl) (by decide) (fun K hK => ?_)
  refine goes_ Try.func22 (by kernel_rfl) rfl #[.agg #[.int .i64 a0_0, .int .u64 a0_1]] (by rfl) rfl rfl (by simp only [List.map_toArray, List.map_cons, List.map_nil]; rfl) ?_
  with_reducible refine ((HSA _).out).mono ?_
  rintro e w5_0 ⟨rfl, hb5_0⟩
  refine ⟨_, rfl, ?_⟩
  obtain ⟨hh0, hh1, hh2, hh3, hh4, hh5, hh6, hh7⟩ := hHeld
  refine hK.out _ _ ⟨keepc hb5_0 (by assumption), keepc hb5_0 (by assumption), keepc hb5_0 (by assumption), keepc hb5_0 (by assumption), keepc hb5_0 (by assumption), keepc hb5_0 (by assumption), keepf hb5_0 (by assumption) (by assumption), keepf hb5_0 (by assumption) (by assumption)⟩ (fun hHeld => ?_)
  clear hK K
  refine norm_ (a' := ?_) ?_ ?_
  rotate_left
  · show Act.put _ (some 30) _ = _
    simp only [Act.put, List.setIfInBounds_toArray, List.set_cons_zero, List.set_cons_succ, i64_w, i32_w]
    rfl
  refine one_ (i := 3) (N := some 32) #[true, true, true, true, false] rfl rfl (by kernel_rfl) (by decide) (fun K hK => ?_)
  refine goes_ Try.func22 (by kernel_rfl) rfl #[.agg #[.int .i64 (-1), .int .u64 18446744073709551615]] (by rfl) rfl rfl (by simp only [List.map_toArray, List.map_cons, List.map_nil]; rfl) ?_
  with_reducible refine ((HSB _).out).mono ?_
  rintro e w5 ⟨rfl, hb5⟩
  refine ⟨_, rfl, ?_⟩
  obtain ⟨hh0, hh1, hh2, hh3, hh4, hh5, hh6, hh7⟩ := hHeld
  refine hK.out _ _ ⟨keepc hb5 (by assumption), keepc hb5 (by assumption), keepc hb5 (by assumption), keepc hb5 (by assumption), keepc hb5 (by assumption), keepc hb5 (by assumption), keepf hb5 (by assumption) (by assumption), keepf hb5 (by assumption) (by assumption)⟩ (fun hHeld => ?_)
  clear hK K
  refine norm_ (a' := ?_) ?_ ?_
  rotate_left
  · show Act.put _ (some 32) _ = _
    simp only [Act.put, List.setIfInBounds_toArray, List.set_cons_zero, List.set_cons_succ, i64_w, i32_w]
    rfl
  refine pure_ (i := 4) (N := some 33) (v := ?_) (a' := ?_) #[true, true, true, true, true] rfl rfl (by kernel_rfl) (fun _ _ _ h => h) (Or.inl ⟨by rfl, ?_⟩) ?_ ?_
  rotate_left
  · intro w'
    go_simp
    with_reducible rfl
  rotate_left
  · simp only [Act.put, List.setIfInBounds_toArray, List.set_cons_zero, List.set_cons_succ, i64_w, i32_w]
    rfl
  refine done_ (by kernel_rfl) ?_
  obtain ⟨c5_a_0, c5_a_1, c5_b_0, c5_b_1, c5_e_0, c5_e_1, f5_e_0, f5_e_1⟩ := hHeld
  have s5_a : w.heap.size < w5.heap.size := World.block_lt_of_cell? _ ⟨w.heap.size, 0, none⟩ c5_a_0
  have s5_b : w.heap.size + 1 < w5.heap.size := World.block_lt_of_cell? _ ⟨w.heap.size + 1, 0, none⟩ c5_b_0
  have s5_e : w4.heap.size < w5.heap.size := World.block_lt_of_cell? _ ⟨w4.heap.size, 0, none⟩ c5_e_0
  go_wp2_with fail
  have ne_a : (w.heap.size = w4.heap.size) = False := eq_false (by omega)
  have ne_b : (w.heap.size + 1 = w4.heap.size) = False := eq_false (by omega)
  have ne_a' : (w4.heap.size = w.heap.size) = False := eq_false (by omega)
  have ne_b' : (w4.heap.size = w.heap.size + 1) = False := eq_false (by omega)
  refine start_ (n := 8) (S := fun w' => w'.cell? ⟨w.heap.size, 0, none⟩ = some (.int .i64 a0_0) ∧ w'.cell? ⟨w.heap.size, 1, none⟩ = some (.int .u64 a0_1) ∧ w'.cell? ⟨w.heap.size + 1, 0, none⟩ = some (.int .i64 (-1)) ∧ w'.cell? ⟨w.heap.size + 1, 1, none⟩ = some (.int .u64 18446744073709551615) ∧ w'.cell? ⟨w4.heap.size, 0, none⟩ = some (.int .i64 (-9223372036854775808)) ∧ w'.cell? ⟨w4.heap.size, 1, none⟩ = some (.int .u64 0)) (ds := []) #[false, false, false, false, false, false, false, false] (by kernel_rfl) rfl rfl ⟨(by simp [go_sem, c5_a_0, c5_a_1, c5_b_0, c5_b_1, s5_a, s5_b, ne_a, ne_b, ne_a', ne_b']), (by simp [go_sem, c5_a_0, c5_a_1, c5_b_0, c5_b_1, s5_a, s5_b, ne_a, ne_b, ne_a', ne_b']), (by simp [go_sem, c5_a_0, c5_a_1, c5_b_0, c5_b_1, s5_a, s5_b, ne_a, ne_b, ne_a', ne_b']), (by simp [go_sem, c5_a_0, c5_a_1, c5_b_0, c5_b_1, s5_a, s5_b, ne_a, ne_b, ne_a', ne_b']), (by simp [go_sem, c5_e_0, c5_e_1]), (by simp [go_sem, c5_e_0, c5_e_1])⟩ (fun hHeld => ?_)
  refine pure_ (i := 0) (N := some 35) (v := ?_) (a' := ?_) #[true, false, false, false, false, false, false, false] rfl rfl (by kernel_rfl) (fun _ _ _ h => h) (Or.inl ⟨by rfl, ?_⟩) ?_ ?_
  rotate_left
  · intro w'
    go_simp
    with_reducible rfl
  rotate_left
  · simp only [Act.put, List.setIfInBounds_toArray, List.set_cons_zero, List.set_cons_succ, i64_w, i32_w]
    rfl
  refine take_ (i := 1) (N := some 36) (v := ?_) (a' := ?_) #[true, true, false, false, false, false, false, false] rfl rfl (by kernel_rfl) (fun _ _ _ h => h) (Or.inl ⟨by rfl, ?_⟩) hHeld ?_ ?_
  rotate_left
  · rintro w' ⟨s0, s1, s2, s3, s4, s5⟩
    go_simp
    with_reducible rfl
  rotate_left
  · simp only [Act.put, List.setIfInBounds_toArray, List.set_cons_zero, List.set_cons_succ, i64_w, i32_w]
    rfl
  refine pure_ (i := 2) (N := some 37) (v := ?_) (a' := ?_) #[true, true, true, false, false, false, false, false] rfl rfl (by kernel_rfl) (fun _ _ _ h => h) (Or.inl ⟨by rfl, ?_⟩) ?_ ?_
  rotate_left
  · intro w'
    go_simp
    with_reducible rfl
  rotate_left
  · simp only [Act.put, List.setIfInBounds_toArray, List.set_cons_zero, List.set_cons_succ, i64_w, i32_w]
    rfl
  refine pure_ (i := 3) (N := some 38) (v := ?_) (a' := ?_) #[true, true, true, true, false, false, false, false] rfl rfl (by kernel_rfl) (fun _ _ _ h => h) (Or.inl ⟨by rfl, ?_⟩) ?_ ?_
  rotate_left
  · intro w'
    go_simp
    with_reducible rfl
  rotate_left
  · simp only [Act.put, List.setIfInBounds_toArray, List.set_cons_zero, List.set_cons_succ, i64_w, i32_w]
    rfl
  refine take_ (i := 4) (N := some 39) (v := ?_) (a' := ?_) #[true, true, true, true, true, false, false, false] rfl rfl (by kernel_rfl) (fun _ _ _ h => h) (Or.inl ⟨by rfl, ?_⟩) hHeld ?_ ?_
  rotate_left
  · rintro w' ⟨s0, s1, s2, s3, s4, s5⟩
    go_simp
    with_reducible rfl
  rotate_left
  · simp only [Act.put, List.setIfInBounds_toArray, List.set_cons_zero, List.set_cons_succ, i64_w, i32_w]
    rfl
  refine one_ (i := 5) (N := some 40) #[true, true, true, true, true, true, false, false] rfl rfl (by kernel_rfl) (by decide) (fun K hK => ?_)
  refine goes_ Try.func20 (by kernel_rfl) rfl #[.int .i64 (-1)] (by rfl) rfl rfl (by simp only [List.map_toArray, List.map_cons, List.map_nil]; rfl) ?_
  with_reducible refine ((HO _).out).mono ?_
  rintro e w6 ⟨rfl, hb6⟩
  refine ⟨_, rfl, ?_⟩
  obtain ⟨hh0, hh1, hh2, hh3, hh4, hh5⟩ := hHeld
  refine hK.out _ _ ⟨keepc hb6 (by assumption), keepc hb6 (by assumption), keepc hb6 (by assumption), keepc hb6 (by assumption), keepc hb6 (by assumption), keepc hb6 (by assumption)⟩ (fun hHeld => ?_)
  clear hK K
  refine norm_ (a' := ?_) ?_ ?_
  rotate_left
  · show Act.put _ (some 40) _ = _
    simp only [Act.put, List.setIfInBounds_toArray, List.set_cons_zero, List.set_cons_succ, i64_w, i32_w]
    rfl
  refine pure_ (i := 6) (N := some 41) (v := ?_) (a' := ?_) #[true, true, true, true, true, true, true, false] rfl rfl (by kernel_rfl) (fun _ _ _ h => h) (Or.inl ⟨by rfl, ?_⟩) ?_ ?_
  rotate_left
  · intro w'
    go_simp
    with_reducible rfl
  rotate_left
  · simp only [Act.put, List.setIfInBounds_toArray, List.set_cons_zero, List.set_cons_succ, i64_w, i32_w]
    rfl
  refine pure_ (i := 7) (N := some 42) (v := ?_) (a' := ?_) #[true, true, true, true, true, true, true, true] rfl rfl (by kernel_rfl) (fun _ _ _ h => h) (Or.inl ⟨by rfl, ?_⟩) ?_ ?_
  rotate_left
  · intro w'
    go_simp
    with_reducible rfl
  rotate_left
  · simp only [Act.put, List.setIfInBounds_toArray, List.set_cons_zero, List.set_cons_succ, i64_w, i32_w]
    rfl
  refine done_ (by kernel_rfl) ?_
  obtain ⟨c6_a_0, c6_a_1, c6_b_0, c6_b_1, c6_e_0, c6_e_1⟩ := hHeld
  have s6_a : w.heap.size < w6.heap.size := World.block_lt_of_cell? _ ⟨w.heap.size, 0, none⟩ c6_a_0
  have s6_b : w.heap.size + 1 < w6.heap.size := World.block_lt_of_cell? _ ⟨w.heap.size + 1, 0, none⟩ c6_b_0
  have s6_e : w4.heap.size < w6.heap.size := World.block_lt_of_cell? _ ⟨w4.heap.size, 0, none⟩ c6_e_0
  go_wp2_with fail
  (go_ret; exact ⟨rfl, by repeat (with_reducible first | apply pw_below_drewN | apply below_drew1 | apply below_alloc | exact Below.refl _ _ | (refine below_set ?_ (by first | omega | (simp; omega))) | (refine below_next ?_ (by assumption)))⟩)
def TimesRefused.f (a0_0 a0_1 a1_0 a1_1 : Int) : Option Bool := if WB a0_0 a0_1 ∧ WB a1_0 a1_1 then some true else none
theorem sgnv_zero {v : Int} (h : v = 0) : sgnv v = 0 := by rw [h]; rfl
theorem sgnv_ne {v : Int} (h : v ≠ 0) : (sgnv v == 0) = false := by
  rw [beq_eq_false_iff_ne]
  rcases sgnv_cases v with ⟨c, e⟩ | ⟨c, e⟩ | ⟨c, e⟩ <;> omega
/-- The quotient of the greatest number by the one distance says whether the other one is too great. -/
theorem refuse_core {x y E : Int} (hx : 0 ≤ x) (hy : 0 < y) (hE : 0 ≤ E) : x * y ≤ E ↔ x ≤ E / y := (Int.le_ediv_iff_mul_le hy).symm
theorem wabs_pm {q : Int} (h : 0 ≤ q) (b : Bool) : wabs (if b = true then -q else q) = q := by
  unfold wabs
  cases b <;> simp only [Bool.false_eq_true, if_true, if_false] <;> split <;> omega
theorem wabs_eq {v : Int} : (0 ≤ v ∧ wabs v = v) ∨ (v < 0 ∧ wabs v = -v) := by
  unfold wabs
  split <;> omega
theorem TimesRefused.calls (a0_0 a0_1 a1_0 a1_1 : Int) (r : Bool) (w : World) (h : TimesRefused.f a0_0 a0_1 a1_0 a1_1 = some r) :
    Calls Try.prog 10 #[.agg #[.int .i64 a0_0, .int .u64 a0_1], .agg #[.int .i64 a1_0, .int .u64 a1_1]] w fun e w' => e = .returned (.bool r) ∧ Below w.heap.size w w' := by
  unfold TimesRefused.f at h
  split at h
  · rename_i hb
    obtain rfl := Option.some.inj h
    obtain ⟨ha, hb⟩ := hb
    have hM := Mul_f ha hb
    have hSA := Sign_f ha
    have hSB := Sign_f hb
    have ia := wv_in ha
    have ib := wv_in hb
    by_cases h0 : wv a0_0 a0_1 = 0
    · rw [h0, Int.zero_mul] at hM
      exact TimesRefused_w0 _ _ _ _ _ _ _ w hM (by rw [hSA, sgnv_zero h0]) rfl
    by_cases h1 : wv a1_0 a1_1 = 0
    · rw [h1, Int.mul_zero] at hM
      exact TimesRefused_w1 _ _ _ _ _ _ _ w hM _ hSA (sgnv_ne h0) (by rw [hSB, sgnv_zero h1]) rfl
    have ee : ∀ v : Int, ((wans v).2.2 == 0) = decide (-170141183460469231731687303715884105728 ≤ v ∧ v ≤ 170141183460469231731687303715884105727) := by
      intro v
      unfold wans
      split <;> rename_i hv
      · rw [decide_eq_true hv]; rfl
      · rw [decide_eq_false hv]; rfl
    have hM' : Mul.f a0_0 a0_1 a1_0 a1_1 = some ((wans (wv a0_0 a0_1 * wv a1_0 a1_1)).1, (wans (wv a0_0 a0_1 * wv a1_0 a1_1)).2.1, (wans (wv a0_0 a0_1 * wv a1_0 a1_1)).2.2) := hM
    have eP := wmul_sign (wv a0_0 a0_1) (wv a1_0 a1_1)
    have xA : 0 < wabs (wv a0_0 a0_1) := by rcases wabs_eq (v := wv a0_0 a0_1) with ⟨c, e⟩ | ⟨c, e⟩ <;> omega
    have xB : 0 < wabs (wv a1_0 a1_1) := by rcases wabs_eq (v := wv a1_0 a1_1) with ⟨c, e⟩ | ⟨c, e⟩ <;> omega
    have pp : 0 ≤ wabs (wv a0_0 a0_1) * wabs (wv a1_0 a1_1) := Int.mul_nonneg (Int.le_of_lt xA) (Int.le_of_lt xB)
    by_cases hs : (wv a0_0 a0_1 < 0) = (wv a1_0 a1_1 < 0)
    · have hs2 : wv a0_0 a0_1 < 0 ↔ wv a1_0 a1_1 < 0 := iff_of_eq hs
      have hd : (sgnv (wv a0_0 a0_1) != sgnv (wv a1_0 a1_1)) = false := by
        rw [bne_eq_false_iff_eq]
        rcases sgnv_cases (wv a0_0 a0_1) with ⟨c, e⟩ | ⟨c, e⟩ | ⟨c, e⟩ <;> rcases sgnv_cases (wv a1_0 a1_1) with ⟨d, f⟩ | ⟨d, f⟩ | ⟨d, f⟩ <;> omega
      rw [if_neg (by rw [bne_iff_ne, ne_eq, decide_eq_decide]; exact fun h => h hs2)] at eP
      have hD := Div_f 2 (a0 := 9223372036854775807) (a1 := 18446744073709551615) (by unfold WB; omega) hb
      rw [show wv 9223372036854775807 18446744073709551615 = 170141183460469231731687303715884105727 from rfl] at hD
      obtain ⟨iq, ir, hl⟩ := quo_range (a := 170141183460469231731687303715884105727) (b := wv a1_0 a1_1) (by omega) ib h1 (by omega)
      have ht := tdiv_wabs 170141183460469231731687303715884105727 (wv a1_0 a1_1)
      have hr : rquo 170141183460469231731687303715884105727 (wv a1_0 a1_1) 2 = Int.tdiv 170141183460469231731687303715884105727 (wv a1_0 a1_1) := by
        unfold rquo
        split
        · rfl
        · rw [if_neg (by unfold wfar; simp)]
      unfold dans at hD
      rw [if_neg (by omega), if_neg h1, hr, wans_in iq] at hD
      refine TimesRefused_w4 _ _ _ _ _ _ _ w hM' _ _ hSA (sgnv_ne h0) hSB (sgnv_ne h1) hd _ _ hD _ (ee _) ?_
      rw [nearer_f (WB_split iq) ha, wv_of]
      congr 1
      rw [show wabs 170141183460469231731687303715884105727 = 170141183460469231731687303715884105727 from rfl] at ht
      have hq : 0 ≤ 170141183460469231731687303715884105727 / wabs (wv a1_0 a1_1) := Int.ediv_nonneg (by omega) (Int.le_of_lt xB)
      have hw : wabs (Int.tdiv 170141183460469231731687303715884105727 (wv a1_0 a1_1)) = 170141183460469231731687303715884105727 / wabs (wv a1_0 a1_1) := by
        rw [ht]
        exact wabs_pm hq _
      rw [hw, eP, ← decide_not, decide_eq_decide]
      have := refuse_core (Int.le_of_lt xA) xB (E := 170141183460469231731687303715884105727) (by omega)
      omega
    · have hs2 : ¬ (wv a0_0 a0_1 < 0 ↔ wv a1_0 a1_1 < 0) := fun h => hs (propext h)
      have hd : (sgnv (wv a0_0 a0_1) != sgnv (wv a1_0 a1_1)) = true := by
        rw [bne_iff_ne]
        rcases sgnv_cases (wv a0_0 a0_1) with ⟨c, e⟩ | ⟨c, e⟩ | ⟨c, e⟩ <;> rcases sgnv_cases (wv a1_0 a1_1) with ⟨d, f⟩ | ⟨d, f⟩ | ⟨d, f⟩ <;> omega
      rw [if_pos (by rw [bne_iff_ne, ne_eq, decide_eq_decide]; exact hs2)] at eP
      by_cases h2 : wv a1_0 a1_1 = -1
      · obtain ⟨e1, e2⟩ : a1_0 = -1 ∧ a1_1 = 18446744073709551615 := by
          unfold WB at hb
          unfold wv at h2
          omega
        have he : ((wans (wv a0_0 a0_1 * wv a1_0 a1_1)).2.2 == 0) = true := by
          rw [ee, h2]
          exact decide_eq_true (by omega)
        subst e1 e2
        exact TimesRefused_w2 _ _ _ _ _ w hM' _ _ hSA (sgnv_ne h0) hSB (sgnv_ne h1) hd he
      · have hn : (a1_0 == -1 && a1_1 == 18446744073709551615) = false := by
          rw [← Bool.not_eq_true, Bool.and_eq_true, beq_iff_eq, beq_iff_eq]
          rintro ⟨rfl, rfl⟩
          exact h2 rfl
        have hD := Div_f 2 (a0 := -9223372036854775808) (a1 := 0) (by unfold WB; omega) hb
        rw [show wv (-9223372036854775808) 0 = -170141183460469231731687303715884105728 from rfl] at hD
        obtain ⟨iq, ir, hl⟩ := quo_range (a := -170141183460469231731687303715884105728) (b := wv a1_0 a1_1) (by omega) ib h1 (by omega)
        have ht := tdiv_wabs (-170141183460469231731687303715884105728) (wv a1_0 a1_1)
        have hr : rquo (-170141183460469231731687303715884105728) (wv a1_0 a1_1) 2 = Int.tdiv (-170141183460469231731687303715884105728) (wv a1_0 a1_1) := by
          unfold rquo
          split
          · rfl
          · rw [if_neg (by unfold wfar; simp)]
        unfold dans at hD
        rw [if_neg (by omega), if_neg h1, hr, wans_in iq] at hD
        refine TimesRefused_w3 _ _ _ _ _ _ _ w hM' _ _ hSA (sgnv_ne h0) hSB (sgnv_ne h1) hd hn _ _ hD _ (ee _) ?_
        rw [nearer_f (WB_split iq) ha, wv_of]
        congr 1
        rw [show wabs (-170141183460469231731687303715884105728) = 170141183460469231731687303715884105728 from rfl] at ht
        have hq : 0 ≤ 170141183460469231731687303715884105728 / wabs (wv a1_0 a1_1) := Int.ediv_nonneg (by omega) (Int.le_of_lt xB)
        have hw : wabs (Int.tdiv (-170141183460469231731687303715884105728) (wv a1_0 a1_1)) = 170141183460469231731687303715884105728 / wabs (wv a1_0 a1_1) := by
          rw [ht]
          exact wabs_pm hq _
        rw [hw, eP, ← decide_not, decide_eq_decide]
        have := refuse_core (Int.le_of_lt xA) xB (E := 170141183460469231731687303715884105728) (by omega)
        omega
  · cases h
end Go.Proofs.Ytieeaicdpdidpaa.TF
