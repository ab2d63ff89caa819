/-
  Contracts of package times' functions: what each answers, as one number of 128 bits. No condition but that words are words (else the printed function is none).
-/
import Derived.Test.YtieeaicdpdidpaaWF
import Derived.Test.YtieeaicdpdidpaaPTFx
import Derived.Test.YtieeaicdpdidpaaTPure
namespace Go.Proofs.Ytieeaicdpdidpaa.TF
open Go.RowKit Go.Proofs.YtieeaicdpdidpaaW.PrintWords
open WF
set_option linter.unusedVariables false
set_option linter.unusedSimpArgs false
attribute [local go_sem] run_add64 run_sub64
attribute [local go_sem high] eqW
set_option maxHeartbeats 4000000 in
set_option maxRecDepth 100000 in
theorem pick_w (a0 : Bool) (a1 a2 r : Int) (hr : (bif a0 then a1 else a2) = r) (w : World) :
    Calls Try.prog 27 #[.bool a0, .int .u64 a1, .int .u64 a2] w fun e w' => e = .returned (.int .u64 r) ∧ Below w.heap.size w w' := by
  cases a0 <;> (obtain rfl := by simpa using hr) <;> clear hr <;> go_enter Try.func27, Try.ntmps27 <;> go_wp2 <;> (go_ret; exact ⟨rfl, by repeat (with_reducible first | apply pw_below_drewN | apply below_drew1 | apply below_alloc | exact Below.refl _ _ | (refine below_set ?_ (by first | omega | (simp; omega))) | (refine below_next ?_ (by assumption)))⟩)
set_option maxHeartbeats 4000000 in
set_option maxRecDepth 100000 in
theorem Mul_w0 (a0_0 a0_1 a1_0 a1_1 ah al bh bl : Int) (w : World) (hA : WF.Abs.f a0_0 a0_1 = some (ah, al)) (hB : WF.Abs.f a1_0 a1_1 = some (bh, bl)) (hx : (ah != 0) = true) (hy : (bh != 0) = true) :
    Calls Try.prog 12 #[.agg #[.int .i64 a0_0, .int .u64 a0_1], .agg #[.int .i64 a1_0, .int .u64 a1_1]] w fun e w' => e = .returned (.tuple #[.agg #[.int .i64 0, .int .u64 0], .int .i64 10]) ∧ Below w.heap.size w w' := by
  have HA := fun W => Lib.hid (WF.Abs.calls _ _ _ _ W hA)
  have HB := fun W => Lib.hid (WF.Abs.calls _ _ _ _ W hB)
  clear hA hB
  go_enter Try.func12, Try.ntmps12
  go_wp2_with fail
  refine ((HA _).out).mono ?_
  rintro e w1 ⟨rfl, hb1⟩
  obtain ⟨hc1, hf1⟩ := bcell hb1
  have z1 : w.heap.size + 2 < w1.heap.size := (by have := hb1.size; (try simp at this); omega)
  have s1_0 : w.heap.size < w1.heap.size := (by omega)
  have s1_1 : w.heap.size + 1 < w1.heap.size := (by omega)
  have s1_2 : w.heap.size + 1 + 1 < w1.heap.size := (by omega)
  have p1_0_0 : w1.cell? ⟨w.heap.size, 0, none⟩ = some (.int .i64 a0_0) := (by rw [hc1 _ _ (by first | omega | (simp; done) | (simp; omega))]; simp [go_sem])
  have p1_0_1 : w1.cell? ⟨w.heap.size, 1, none⟩ = some (.int .u64 a0_1) := (by rw [hc1 _ _ (by first | omega | (simp; done) | (simp; omega))]; simp [go_sem])
  have p1_1_0 : w1.cell? ⟨w.heap.size + 1, 0, none⟩ = some (.int .i64 a1_0) := (by rw [hc1 _ _ (by first | omega | (simp; done) | (simp; omega))]; simp [go_sem])
  have p1_1_1 : w1.cell? ⟨w.heap.size + 1, 1, none⟩ = some (.int .u64 a1_1) := (by rw [hc1 _ _ (by first | omega | (simp; done) | (simp; omega))]; simp [go_sem])
  have p1_2_0 : w1.cell? ⟨w.heap.size + 1 + 1, 0, none⟩ = some (.int .i64 0) := (by rw [hc1 _ _ (by first | omega | (simp; done) | (simp; omega))]; simp [go_sem])
  have p1_2_1 : w1.cell? ⟨w.heap.size + 1 + 1, 1, none⟩ = some (.int .u64 0) := (by rw [hc1 _ _ (by first | omega | (simp; done) | (simp; omega))]; simp [go_sem])
  go_wp2_with fail
  refine ((HB _).out).mono ?_
  rintro e w2 ⟨rfl, hb2⟩
  obtain ⟨hc2, hf2⟩ := bcell hb2
  have z2 : w.heap.size + 2 < w2.heap.size := (by have := hb2.size; (try simp at this); omega)
  have s2_0 : w.heap.size < w2.heap.size := (by omega)
  have s2_1 : w.heap.size + 1 < w2.heap.size := (by omega)
  have s2_2 : w.heap.size + 1 + 1 < w2.heap.size := (by omega)
  have p2_0_0 : w2.cell? ⟨w.heap.size, 0, none⟩ = some (.int .i64 a0_0) := (by rw [hc2 _ _ (by first | omega | (simp; done) | (simp; omega))]; simp [go_sem, p1_0_0, s1_0, s1_1, s1_2])
  have p2_0_1 : w2.cell? ⟨w.heap.size, 1, none⟩ = some (.int .u64 a0_1) := (by rw [hc2 _ _ (by first | omega | (simp; done) | (simp; omega))]; simp [go_sem, p1_0_1, s1_0, s1_1, s1_2])
  have p2_1_0 : w2.cell? ⟨w.heap.size + 1, 0, none⟩ = some (.int .i64 a1_0) := (by rw [hc2 _ _ (by first | omega | (simp; done) | (simp; omega))]; simp [go_sem, p1_1_0, s1_0, s1_1, s1_2])
  have p2_1_1 : w2.cell? ⟨w.heap.size + 1, 1, none⟩ = some (.int .u64 a1_1) := (by rw [hc2 _ _ (by first | omega | (simp; done) | (simp; omega))]; simp [go_sem, p1_1_1, s1_0, s1_1, s1_2])
  have p2_2_0 : w2.cell? ⟨w.heap.size + 1 + 1, 0, none⟩ = some (.int .i64 0) := (by rw [hc2 _ _ (by first | omega | (simp; done) | (simp; omega))]; simp [go_sem, p1_2_0, s1_0, s1_1, s1_2])
  have p2_2_1 : w2.cell? ⟨w.heap.size + 1 + 1, 1, none⟩ = some (.int .u64 0) := (by rw [hc2 _ _ (by first | omega | (simp; done) | (simp; omega))]; simp [go_sem, p1_2_1, s1_0, s1_1, s1_2])
  go_wp2_with fail
  exact bodyPost_ret (by simp [results, Try.results12, go_sem, p2_0_0, p2_0_1, p2_1_0, p2_1_1, p2_2_0, p2_2_1, s2_0, s2_1, s2_2]) rfl ⟨rfl, by repeat (with_reducible first | apply pw_below_drewN | apply below_drew1 | apply below_alloc | exact Below.refl _ _ | (refine below_set ?_ (by first | omega | (simp; omega))) | (refine below_next ?_ (by assumption)))⟩
set_option maxHeartbeats 4000000 in
set_option maxRecDepth 100000 in
theorem Mul_w1 (a0_0 a0_1 a1_0 a1_1 ah al bh bl : Int) (w : World) (hA : WF.Abs.f a0_0 a0_1 = some (ah, al)) (hB : WF.Abs.f a1_0 a1_1 = some (bh, bl)) (x y : Bool) (hxy : (x && y) = false) (hx : (ah != 0) = x) (hy : (bh != 0) = y)
    (hi lo t ov cr : Int) (h1 : PTF.bits_Mul64.f al bl = some (hi, lo)) (ht : (bif x then bl else al) = t) (h2 : PTF.bits_Mul64.f (Go.bits .or .u64 ah bh) t = some (ov, cr)) (u v : Bool) (hu : (ov != 0) = u) (hv : (add64Hi hi cr 0 != 0) = v) (huv : (u || v) = true) (cc : decide (add64Hi hi cr 0 ≤ 1) = true) :
    Calls Try.prog 12 #[.agg #[.int .i64 a0_0, .int .u64 a0_1], .agg #[.int .i64 a1_0, .int .u64 a1_1]] w fun e w' => e = .returned (.tuple #[.agg #[.int .i64 0, .int .u64 0], .int .i64 10]) ∧ Below w.heap.size w w' := by
  have HA := fun W => Lib.hid (WF.Abs.calls _ _ _ _ W hA)
  have HB := fun W => Lib.hid (WF.Abs.calls _ _ _ _ W hB)
  clear hA hB
  have H1 := fun W => Lib.hid (PTF.bits_Mul64.calls _ _ _ _ W h1)
  have H2 := fun W => Lib.hid (PTF.bits_Mul64.calls _ _ _ _ W h2)
  have HP := fun W => Lib.hid (pick_w x bl al t ht W)
  clear h1 h2 ht
  cases x <;> cases y <;> cases u <;> cases v <;> first | (exact absurd hxy (by decide)) | (exact absurd huv (by decide)) | skip
  all_goals
  · go_enter Try.func12, Try.ntmps12
    go_wp2_with fail
    refine ((HA _).out).mono ?_
    rintro e w1 ⟨rfl, hb1⟩
    obtain ⟨hc1, hf1⟩ := bcell hb1
    have z1 : w.heap.size + 2 < w1.heap.size := (by have := hb1.size; (try simp at this); omega)
    have s1_0 : w.heap.size < w1.heap.size := (by omega)
    have s1_1 : w.heap.size + 1 < w1.heap.size := (by omega)
    have s1_2 : w.heap.size + 1 + 1 < w1.heap.size := (by omega)
    have p1_0_0 : w1.cell? ⟨w.heap.size, 0, none⟩ = some (.int .i64 a0_0) := (by rw [hc1 _ _ (by first | omega | (simp; done) | (simp; omega))]; simp [go_sem])
    have p1_0_1 : w1.cell? ⟨w.heap.size, 1, none⟩ = some (.int .u64 a0_1) := (by rw [hc1 _ _ (by first | omega | (simp; done) | (simp; omega))]; simp [go_sem])
    have p1_1_0 : w1.cell? ⟨w.heap.size + 1, 0, none⟩ = some (.int .i64 a1_0) := (by rw [hc1 _ _ (by first | omega | (simp; done) | (simp; omega))]; simp [go_sem])
    have p1_1_1 : w1.cell? ⟨w.heap.size + 1, 1, none⟩ = some (.int .u64 a1_1) := (by rw [hc1 _ _ (by first | omega | (simp; done) | (simp; omega))]; simp [go_sem])
    have p1_2_0 : w1.cell? ⟨w.heap.size + 1 + 1, 0, none⟩ = some (.int .i64 0) := (by rw [hc1 _ _ (by first | omega | (simp; done) | (simp; omega))]; simp [go_sem])
    have p1_2_1 : w1.cell? ⟨w.heap.size + 1 + 1, 1, none⟩ = some (.int .u64 0) := (by rw [hc1 _ _ (by first | omega | (simp; done) | (simp; omega))]; simp [go_sem])
    go_wp2_with fail
    refine ((HB _).out).mono ?_
    rintro e w2 ⟨rfl, hb2⟩
    obtain ⟨hc2, hf2⟩ := bcell hb2
    have z2 : w.heap.size + 2 < w2.heap.size := (by have := hb2.size; (try simp at this); omega)
    have s2_0 : w.heap.size < w2.heap.size := (by omega)
    have s2_1 : w.heap.size + 1 < w2.heap.size := (by omega)
    have s2_2 : w.heap.size + 1 + 1 < w2.heap.size := (by omega)
    have p2_0_0 : w2.cell? ⟨w.heap.size, 0, none⟩ = some (.int .i64 a0_0) := (by rw [hc2 _ _ (by first | omega | (simp; done) | (simp; omega))]; simp [go_sem, p1_0_0, s1_0, s1_1, s1_2])
    have p2_0_1 : w2.cell? ⟨w.heap.size, 1, none⟩ = some (.int .u64 a0_1) := (by rw [hc2 _ _ (by first | omega | (simp; done) | (simp; omega))]; simp [go_sem, p1_0_1, s1_0, s1_1, s1_2])
    have p2_1_0 : w2.cell? ⟨w.heap.size + 1, 0, none⟩ = some (.int .i64 a1_0) := (by rw [hc2 _ _ (by first | omega | (simp; done) | (simp; omega))]; simp [go_sem, p1_1_0, s1_0, s1_1, s1_2])
    have p2_1_1 : w2.cell? ⟨w.heap.size + 1, 1, none⟩ = some (.int .u64 a1_1) := (by rw [hc2 _ _ (by first | omega | (simp; done) | (simp; omega))]; simp [go_sem, p1_1_1, s1_0, s1_1, s1_2])
    have p2_2_0 : w2.cell? ⟨w.heap.size + 1 + 1, 0, none⟩ = some (.int .i64 0) := (by rw [hc2 _ _ (by first | omega | (simp; done) | (simp; omega))]; simp [go_sem, p1_2_0, s1_0, s1_1, s1_2])
    have p2_2_1 : w2.cell? ⟨w.heap.size + 1 + 1, 1, none⟩ = some (.int .u64 0) := (by rw [hc2 _ _ (by first | omega | (simp; done) | (simp; omega))]; simp [go_sem, p1_2_1, s1_0, s1_1, s1_2])
    go_wp2_with fail
    refine ((H1 _).out).mono ?_
    rintro e w3 ⟨rfl, hd3⟩
    have hb3 := hd3.below
    obtain ⟨hc3, hf3⟩ := bcell hb3
    have z3 : w.heap.size + 2 < w3.heap.size := (by have := hb3.size; (try simp at this); omega)
    have s3_0 : w.heap.size < w3.heap.size := (by omega)
    have s3_1 : w.heap.size + 1 < w3.heap.size := (by omega)
    have s3_2 : w.heap.size + 1 + 1 < w3.heap.size := (by omega)
    have p3_0_0 : w3.cell? ⟨w.heap.size, 0, none⟩ = some (.int .i64 a0_0) := (by rw [hc3 _ _ (by first | omega | (simp; done) | (simp; omega))]; simp [go_sem, p2_0_0, s2_0, s2_1, s2_2])
    have p3_0_1 : w3.cell? ⟨w.heap.size, 1, none⟩ = some (.int .u64 a0_1) := (by rw [hc3 _ _ (by first | omega | (simp; done) | (simp; omega))]; simp [go_sem, p2_0_1, s2_0, s2_1, s2_2])
    have p3_1_0 : w3.cell? ⟨w.heap.size + 1, 0, none⟩ = some (.int .i64 a1_0) := (by rw [hc3 _ _ (by first | omega | (simp; done) | (simp; omega))]; simp [go_sem, p2_1_0, s2_0, s2_1, s2_2])
    have p3_1_1 : w3.cell? ⟨w.heap.size + 1, 1, none⟩ = some (.int .u64 a1_1) := (by rw [hc3 _ _ (by first | omega | (simp; done) | (simp; omega))]; simp [go_sem, p2_1_1, s2_0, s2_1, s2_2])
    have p3_2_0 : w3.cell? ⟨w.heap.size + 1 + 1, 0, none⟩ = some (.int .i64 0) := (by rw [hc3 _ _ (by first | omega | (simp; done) | (simp; omega))]; simp [go_sem, p2_2_0, s2_0, s2_1, s2_2])
    have p3_2_1 : w3.cell? ⟨w.heap.size + 1 + 1, 1, none⟩ = some (.int .u64 0) := (by rw [hc3 _ _ (by first | omega | (simp; done) | (simp; omega))]; simp [go_sem, p2_2_1, s2_0, s2_1, s2_2])
    go_wp2_with fail
    refine ((HP _).out).mono ?_
    rintro e w4 ⟨rfl, hb4⟩
    obtain ⟨hc4, hf4⟩ := bcell hb4
    have z4 : w.heap.size + 2 < w4.heap.size := (by have := hb4.size; (try simp at this); omega)
    have s4_0 : w.heap.size < w4.heap.size := (by omega)
    have s4_1 : w.heap.size + 1 < w4.heap.size := (by omega)
    have s4_2 : w.heap.size + 1 + 1 < w4.heap.size := (by omega)
    have p4_0_0 : w4.cell? ⟨w.heap.size, 0, none⟩ = some (.int .i64 a0_0) := (by rw [hc4 _ _ (by first | omega | (simp; done) | (simp; omega))]; simp [go_sem, p3_0_0, s3_0, s3_1, s3_2])
    have p4_0_1 : w4.cell? ⟨w.heap.size, 1, none⟩ = some (.int .u64 a0_1) := (by rw [hc4 _ _ (by first | omega | (simp; done) | (simp; omega))]; simp [go_sem, p3_0_1, s3_0, s3_1, s3_2])
    have p4_1_0 : w4.cell? ⟨w.heap.size + 1, 0, none⟩ = some (.int .i64 a1_0) := (by rw [hc4 _ _ (by first | omega | (simp; done) | (simp; omega))]; simp [go_sem, p3_1_0, s3_0, s3_1, s3_2])
    have p4_1_1 : w4.cell? ⟨w.heap.size + 1, 1, none⟩ = some (.int .u64 a1_1) := (by rw [hc4 _ _ (by first | omega | (simp; done) | (simp; omega))]; simp [go_sem, p3_1_1, s3_0, s3_1, s3_2])
    have p4_2_0 : w4.cell? ⟨w.heap.size + 1 + 1, 0, none⟩ = some (.int .i64 0) := (by rw [hc4 _ _ (by first | omega | (simp; done) | (simp; omega))]; simp [go_sem, p3_2_0, s3_0, s3_1, s3_2])
    have p4_2_1 : w4.cell? ⟨w.heap.size + 1 + 1, 1, none⟩ = some (.int .u64 0) := (by rw [hc4 _ _ (by first | omega | (simp; done) | (simp; omega))]; simp [go_sem, p3_2_1, s3_0, s3_1, s3_2])
    go_wp2_with fail
    refine ((H2 _).out).mono ?_
    rintro e w5 ⟨rfl, hd5⟩
    have hb5 := hd5.below
    obtain ⟨hc5, hf5⟩ := bcell hb5
    have z5 : w.heap.size + 2 < w5.heap.size := (by have := hb5.size; (try simp at this); omega)
    have s5_0 : w.heap.size < w5.heap.size := (by omega)
    have s5_1 : w.heap.size + 1 < w5.heap.size := (by omega)
    have s5_2 : w.heap.size + 1 + 1 < w5.heap.size := (by omega)
    have p5_0_0 : w5.cell? ⟨w.heap.size, 0, none⟩ = some (.int .i64 a0_0) := (by rw [hc5 _ _ (by first | omega | (simp; done) | (simp; omega))]; simp [go_sem, p4_0_0, s4_0, s4_1, s4_2])
    have p5_0_1 : w5.cell? ⟨w.heap.size, 1, none⟩ = some (.int .u64 a0_1) := (by rw [hc5 _ _ (by first | omega | (simp; done) | (simp; omega))]; simp [go_sem, p4_0_1, s4_0, s4_1, s4_2])
    have p5_1_0 : w5.cell? ⟨w.heap.size + 1, 0, none⟩ = some (.int .i64 a1_0) := (by rw [hc5 _ _ (by first | omega | (simp; done) | (simp; omega))]; simp [go_sem, p4_1_0, s4_0, s4_1, s4_2])
    have p5_1_1 : w5.cell? ⟨w.heap.size + 1, 1, none⟩ = some (.int .u64 a1_1) := (by rw [hc5 _ _ (by first | omega | (simp; done) | (simp; omega))]; simp [go_sem, p4_1_1, s4_0, s4_1, s4_2])
    have p5_2_0 : w5.cell? ⟨w.heap.size + 1 + 1, 0, none⟩ = some (.int .i64 0) := (by rw [hc5 _ _ (by first | omega | (simp; done) | (simp; omega))]; simp [go_sem, p4_2_0, s4_0, s4_1, s4_2])
    have p5_2_1 : w5.cell? ⟨w.heap.size + 1 + 1, 1, none⟩ = some (.int .u64 0) := (by rw [hc5 _ _ (by first | omega | (simp; done) | (simp; omega))]; simp [go_sem, p4_2_1, s4_0, s4_1, s4_2])
    go_wp2_with fail
    exact bodyPost_ret (by simp [results, Try.results12, go_sem, p5_0_0, p5_0_1, p5_1_0, p5_1_1, p5_2_0, p5_2_1, s5_0, s5_1, s5_2]) rfl ⟨rfl, by repeat (with_reducible first | apply pw_below_drewN | apply below_drew1 | apply below_alloc | exact Below.refl _ _ | (refine below_set ?_ (by first | omega | (simp; omega))) | (refine below_next ?_ (by assumption)))⟩
set_option maxHeartbeats 4000000 in
set_option maxRecDepth 100000 in
theorem Mul_w2 (a0_0 a0_1 a1_0 a1_1 ah al bh bl : Int) (w : World) (hA : WF.Abs.f a0_0 a0_1 = some (ah, al)) (hB : WF.Abs.f a1_0 a1_1 = some (bh, bl)) (x y : Bool) (hxy : (x && y) = false) (hx : (ah != 0) = x) (hy : (bh != 0) = y)
    (hi lo t ov cr : Int) (h1 : PTF.bits_Mul64.f al bl = some (hi, lo)) (ht : (bif x then bl else al) = t) (h2 : PTF.bits_Mul64.f (Go.bits .or .u64 ah bh) t = some (ov, cr)) (u v : Bool) (hu : (ov != 0) = u) (hv : (add64Hi hi cr 0 != 0) = v) (huv : (u || v) = false) (cc : decide (add64Hi hi cr 0 ≤ 1) = true) (r1 r2 r3 : Int) (hJ : WF.Join.f (decide (a0_0 < 0) != decide (a1_0 < 0)) (add64Lo hi cr 0) lo = some (r1, r2, r3)) :
    Calls Try.prog 12 #[.agg #[.int .i64 a0_0, .int .u64 a0_1], .agg #[.int .i64 a1_0, .int .u64 a1_1]] w fun e w' => e = .returned (.tuple #[.agg #[.int .i64 r1, .int .u64 r2], .int .i64 r3]) ∧ Below w.heap.size w w' := by
  have HA := fun W => Lib.hid (WF.Abs.calls _ _ _ _ W hA)
  have HB := fun W => Lib.hid (WF.Abs.calls _ _ _ _ W hB)
  clear hA hB
  have H1 := fun W => Lib.hid (PTF.bits_Mul64.calls _ _ _ _ W h1)
  have H2 := fun W => Lib.hid (PTF.bits_Mul64.calls _ _ _ _ W h2)
  have HP := fun W => Lib.hid (pick_w x bl al t ht W)
  clear h1 h2 ht
  have HJ := fun W => Lib.hid (WF.Join.calls _ _ _ _ _ _ W hJ)
  clear hJ
  cases x <;> cases y <;> cases u <;> cases v <;> first | (exact absurd hxy (by decide)) | (exact absurd huv (by decide)) | skip
  all_goals
  · go_enter Try.func12, Try.ntmps12
    go_wp2_with fail
    refine ((HA _).out).mono ?_
    rintro e w1 ⟨rfl, hb1⟩
    obtain ⟨hc1, hf1⟩ := bcell hb1
    have z1 : w.heap.size + 2 < w1.heap.size := (by have := hb1.size; (try simp at this); omega)
    have s1_0 : w.heap.size < w1.heap.size := (by omega)
    have s1_1 : w.heap.size + 1 < w1.heap.size := (by omega)
    have s1_2 : w.heap.size + 1 + 1 < w1.heap.size := (by omega)
    have p1_0_0 : w1.cell? ⟨w.heap.size, 0, none⟩ = some (.int .i64 a0_0) := (by rw [hc1 _ _ (by first | omega | (simp; done) | (simp; omega))]; simp [go_sem])
    have p1_0_1 : w1.cell? ⟨w.heap.size, 1, none⟩ = some (.int .u64 a0_1) := (by rw [hc1 _ _ (by first | omega | (simp; done) | (simp; omega))]; simp [go_sem])
    have p1_1_0 : w1.cell? ⟨w.heap.size + 1, 0, none⟩ = some (.int .i64 a1_0) := (by rw [hc1 _ _ (by first | omega | (simp; done) | (simp; omega))]; simp [go_sem])
    have p1_1_1 : w1.cell? ⟨w.heap.size + 1, 1, none⟩ = some (.int .u64 a1_1) := (by rw [hc1 _ _ (by first | omega | (simp; done) | (simp; omega))]; simp [go_sem])
    have p1_2_0 : w1.cell? ⟨w.heap.size + 1 + 1, 0, none⟩ = some (.int .i64 0) := (by rw [hc1 _ _ (by first | omega | (simp; done) | (simp; omega))]; simp [go_sem])
    have p1_2_1 : w1.cell? ⟨w.heap.size + 1 + 1, 1, none⟩ = some (.int .u64 0) := (by rw [hc1 _ _ (by first | omega | (simp; done) | (simp; omega))]; simp [go_sem])
    go_wp2_with fail
    refine ((HB _).out).mono ?_
    rintro e w2 ⟨rfl, hb2⟩
    obtain ⟨hc2, hf2⟩ := bcell hb2
    have z2 : w.heap.size + 2 < w2.heap.size := (by have := hb2.size; (try simp at this); omega)
    have s2_0 : w.heap.size < w2.heap.size := (by omega)
    have s2_1 : w.heap.size + 1 < w2.heap.size := (by omega)
    have s2_2 : w.heap.size + 1 + 1 < w2.heap.size := (by omega)
    have p2_0_0 : w2.cell? ⟨w.heap.size, 0, none⟩ = some (.int .i64 a0_0) := (by rw [hc2 _ _ (by first | omega | (simp; done) | (simp; omega))]; simp [go_sem, p1_0_0, s1_0, s1_1, s1_2])
    have p2_0_1 : w2.cell? ⟨w.heap.size, 1, none⟩ = some (.int .u64 a0_1) := (by rw [hc2 _ _ (by first | omega | (simp; done) | (simp; omega))]; simp [go_sem, p1_0_1, s1_0, s1_1, s1_2])
    have p2_1_0 : w2.cell? ⟨w.heap.size + 1, 0, none⟩ = some (.int .i64 a1_0) := (by rw [hc2 _ _ (by first | omega | (simp; done) | (simp; omega))]; simp [go_sem, p1_1_0, s1_0, s1_1, s1_2])
    have p2_1_1 : w2.cell? ⟨w.heap.size + 1, 1, none⟩ = some (.int .u64 a1_1) := (by rw [hc2 _ _ (by first | omega | (simp; done) | (simp; omega))]; simp [go_sem, p1_1_1, s1_0, s1_1, s1_2])
    have p2_2_0 : w2.cell? ⟨w.heap.size + 1 + 1, 0, none⟩ = some (.int .i64 0) := (by rw [hc2 _ _ (by first | omega | (simp; done) | (simp; omega))]; simp [go_sem, p1_2_0, s1_0, s1_1, s1_2])
    have p2_2_1 : w2.cell? ⟨w.heap.size + 1 + 1, 1, none⟩ = some (.int .u64 0) := (by rw [hc2 _ _ (by first | omega | (simp; done) | (simp; omega))]; simp [go_sem, p1_2_1, s1_0, s1_1, s1_2])
    go_wp2_with fail
    refine ((H1 _).out).mono ?_
    rintro e w3 ⟨rfl, hd3⟩
    have hb3 := hd3.below
    obtain ⟨hc3, hf3⟩ := bcell hb3
    have z3 : w.heap.size + 2 < w3.heap.size := (by have := hb3.size; (try simp at this); omega)
    have s3_0 : w.heap.size < w3.heap.size := (by omega)
    have s3_1 : w.heap.size + 1 < w3.heap.size := (by omega)
    have s3_2 : w.heap.size + 1 + 1 < w3.heap.size := (by omega)
    have p3_0_0 : w3.cell? ⟨w.heap.size, 0, none⟩ = some (.int .i64 a0_0) := (by rw [hc3 _ _ (by first | omega | (simp; done) | (simp; omega))]; simp [go_sem, p2_0_0, s2_0, s2_1, s2_2])
    have p3_0_1 : w3.cell? ⟨w.heap.size, 1, none⟩ = some (.int .u64 a0_1) := (by rw [hc3 _ _ (by first | omega | (simp; done) | (simp; omega))]; simp [go_sem, p2_0_1, s2_0, s2_1, s2_2])
    have p3_1_0 : w3.cell? ⟨w.heap.size + 1, 0, none⟩ = some (.int .i64 a1_0) := (by rw [hc3 _ _ (by first | omega | (simp; done) | (simp; omega))]; simp [go_sem, p2_1_0, s2_0, s2_1, s2_2])
    have p3_1_1 : w3.cell? ⟨w.heap.size + 1, 1, none⟩ = some (.int .u64 a1_1) := (by rw [hc3 _ _ (by first | omega | (simp; done) | (simp; omega))]; simp [go_sem, p2_1_1, s2_0, s2_1, s2_2])
    have p3_2_0 : w3.cell? ⟨w.heap.size + 1 + 1, 0, none⟩ = some (.int .i64 0) := (by rw [hc3 _ _ (by first | omega | (simp; done) | (simp; omega))]; simp [go_sem, p2_2_0, s2_0, s2_1, s2_2])
    have p3_2_1 : w3.cell? ⟨w.heap.size + 1 + 1, 1, none⟩ = some (.int .u64 0) := (by rw [hc3 _ _ (by first | omega | (simp; done) | (simp; omega))]; simp [go_sem, p2_2_1, s2_0, s2_1, s2_2])
    go_wp2_with fail
    refine ((HP _).out).mono ?_
    rintro e w4 ⟨rfl, hb4⟩
    obtain ⟨hc4, hf4⟩ := bcell hb4
    have z4 : w.heap.size + 2 < w4.heap.size := (by have := hb4.size; (try simp at this); omega)
    have s4_0 : w.heap.size < w4.heap.size := (by omega)
    have s4_1 : w.heap.size + 1 < w4.heap.size := (by omega)
    have s4_2 : w.heap.size + 1 + 1 < w4.heap.size := (by omega)
    have p4_0_0 : w4.cell? ⟨w.heap.size, 0, none⟩ = some (.int .i64 a0_0) := (by rw [hc4 _ _ (by first | omega | (simp; done) | (simp; omega))]; simp [go_sem, p3_0_0, s3_0, s3_1, s3_2])
    have p4_0_1 : w4.cell? ⟨w.heap.size, 1, none⟩ = some (.int .u64 a0_1) := (by rw [hc4 _ _ (by first | omega | (simp; done) | (simp; omega))]; simp [go_sem, p3_0_1, s3_0, s3_1, s3_2])
    have p4_1_0 : w4.cell? ⟨w.heap.size + 1, 0, none⟩ = some (.int .i64 a1_0) := (by rw [hc4 _ _ (by first | omega | (simp; done) | (simp; omega))]; simp [go_sem, p3_1_0, s3_0, s3_1, s3_2])
    have p4_1_1 : w4.cell? ⟨w.heap.size + 1, 1, none⟩ = some (.int .u64 a1_1) := (by rw [hc4 _ _ (by first | omega | (simp; done) | (simp; omega))]; simp [go_sem, p3_1_1, s3_0, s3_1, s3_2])
    have p4_2_0 : w4.cell? ⟨w.heap.size + 1 + 1, 0, none⟩ = some (.int .i64 0) := (by rw [hc4 _ _ (by first | omega | (simp; done) | (simp; omega))]; simp [go_sem, p3_2_0, s3_0, s3_1, s3_2])
    have p4_2_1 : w4.cell? ⟨w.heap.size + 1 + 1, 1, none⟩ = some (.int .u64 0) := (by rw [hc4 _ _ (by first | omega | (simp; done) | (simp; omega))]; simp [go_sem, p3_2_1, s3_0, s3_1, s3_2])
    go_wp2_with fail
    refine ((H2 _).out).mono ?_
    rintro e w5 ⟨rfl, hd5⟩
    have hb5 := hd5.below
    obtain ⟨hc5, hf5⟩ := bcell hb5
    have z5 : w.heap.size + 2 < w5.heap.size := (by have := hb5.size; (try simp at this); omega)
    have s5_0 : w.heap.size < w5.heap.size := (by omega)
    have s5_1 : w.heap.size + 1 < w5.heap.size := (by omega)
    have s5_2 : w.heap.size + 1 + 1 < w5.heap.size := (by omega)
    have p5_0_0 : w5.cell? ⟨w.heap.size, 0, none⟩ = some (.int .i64 a0_0) := (by rw [hc5 _ _ (by first | omega | (simp; done) | (simp; omega))]; simp [go_sem, p4_0_0, s4_0, s4_1, s4_2])
    have p5_0_1 : w5.cell? ⟨w.heap.size, 1, none⟩ = some (.int .u64 a0_1) := (by rw [hc5 _ _ (by first | omega | (simp; done) | (simp; omega))]; simp [go_sem, p4_0_1, s4_0, s4_1, s4_2])
    have p5_1_0 : w5.cell? ⟨w.heap.size + 1, 0, none⟩ = some (.int .i64 a1_0) := (by rw [hc5 _ _ (by first | omega | (simp; done) | (simp; omega))]; simp [go_sem, p4_1_0, s4_0, s4_1, s4_2])
    have p5_1_1 : w5.cell? ⟨w.heap.size + 1, 1, none⟩ = some (.int .u64 a1_1) := (by rw [hc5 _ _ (by first | omega | (simp; done) | (simp; omega))]; simp [go_sem, p4_1_1, s4_0, s4_1, s4_2])
    have p5_2_0 : w5.cell? ⟨w.heap.size + 1 + 1, 0, none⟩ = some (.int .i64 0) := (by rw [hc5 _ _ (by first | omega | (simp; done) | (simp; omega))]; simp [go_sem, p4_2_0, s4_0, s4_1, s4_2])
    have p5_2_1 : w5.cell? ⟨w.heap.size + 1 + 1, 1, none⟩ = some (.int .u64 0) := (by rw [hc5 _ _ (by first | omega | (simp; done) | (simp; omega))]; simp [go_sem, p4_2_1, s4_0, s4_1, s4_2])
    go_wp2_with fail
    refine ((HJ _).out).mono ?_
    rintro e w6 ⟨rfl, hb6⟩
    obtain ⟨hc6, hf6⟩ := bcell hb6
    have z6 : w.heap.size + 2 < w6.heap.size := (by have := hb6.size; (try simp at this); omega)
    have s6_0 : w.heap.size < w6.heap.size := (by omega)
    have s6_1 : w.heap.size + 1 < w6.heap.size := (by omega)
    have s6_2 : w.heap.size + 1 + 1 < w6.heap.size := (by omega)
    have p6_0_0 : w6.cell? ⟨w.heap.size, 0, none⟩ = some (.int .i64 a0_0) := (by rw [hc6 _ _ (by first | omega | (simp; done) | (simp; omega))]; simp [go_sem, p5_0_0, s5_0, s5_1, s5_2])
    have p6_0_1 : w6.cell? ⟨w.heap.size, 1, none⟩ = some (.int .u64 a0_1) := (by rw [hc6 _ _ (by first | omega | (simp; done) | (simp; omega))]; simp [go_sem, p5_0_1, s5_0, s5_1, s5_2])
    have p6_1_0 : w6.cell? ⟨w.heap.size + 1, 0, none⟩ = some (.int .i64 a1_0) := (by rw [hc6 _ _ (by first | omega | (simp; done) | (simp; omega))]; simp [go_sem, p5_1_0, s5_0, s5_1, s5_2])
    have p6_1_1 : w6.cell? ⟨w.heap.size + 1, 1, none⟩ = some (.int .u64 a1_1) := (by rw [hc6 _ _ (by first | omega | (simp; done) | (simp; omega))]; simp [go_sem, p5_1_1, s5_0, s5_1, s5_2])
    have p6_2_0 : w6.cell? ⟨w.heap.size + 1 + 1, 0, none⟩ = some (.int .i64 0) := (by rw [hc6 _ _ (by first | omega | (simp; done) | (simp; omega))]; simp [go_sem, p5_2_0, s5_0, s5_1, s5_2])
    have p6_2_1 : w6.cell? ⟨w.heap.size + 1 + 1, 1, none⟩ = some (.int .u64 0) := (by rw [hc6 _ _ (by first | omega | (simp; done) | (simp; omega))]; simp [go_sem, p5_2_1, s5_0, s5_1, s5_2])
    go_wp2_with fail
    exact bodyPost_ret (by simp [results, Try.results12, go_sem, p6_0_0, p6_0_1, p6_1_0, p6_1_1, p6_2_0, p6_2_1, s6_0, s6_1, s6_2]) rfl ⟨rfl, by repeat (with_reducible first | apply pw_below_drewN | apply below_drew1 | apply below_alloc | exact Below.refl _ _ | (refine below_set ?_ (by first | omega | (simp; omega))) | (refine below_next ?_ (by assumption)))⟩
theorem wmul_sign (a b : Int) : a * b = if (decide (a < 0) != decide (b < 0)) = true then -(wabs a * wabs b) else wabs a * wabs b := by
  unfold wabs
  by_cases h1 : a < 0 <;> by_cases h2 : b < 0 <;> simp [h1, h2, Int.neg_mul_neg, Int.neg_mul, Int.mul_neg]
theorem wneg_dec {h l : Int} (b : WB h l) : decide (h < 0) = decide (wv h l < 0) := by
  unfold WB at b
  unfold wv
  exact decide_eq_decide.2 (by omega)
theorem wans_big {p : Int} (h : 340282366920938463463374607431768211456 ≤ p) (s : Bool) : wans (if s = true then -p else p) = (0, 0, 10) := by
  apply wans_out
  split <;> omega
def Mul.f (a0_0 a0_1 a1_0 a1_1 : Int) : Option (Int × Int × Int) := if WB a0_0 a0_1 ∧ WB a1_0 a1_1 then some (wans (wv a0_0 a0_1 * wv a1_0 a1_1)) else none
theorem or_zero_l {x : Int} (h : 0 ≤ x ∧ x ≤ 18446744073709551615) : Go.bits .or .u64 0 x = x := by
  rw [u64_or 0 x (by omega) (by omega) h.1 (by omega), show (0 : Int).toNat = 0 from rfl, Nat.zero_or]
  omega
theorem or_zero_r {x : Int} (h : 0 ≤ x ∧ x ≤ 18446744073709551615) : Go.bits .or .u64 x 0 = x := by
  rw [u64_or x 0 h.1 (by omega) (by omega) (by omega), show (0 : Int).toNat = 0 from rfl, Nat.or_zero]
  omega
theorem cross_f {ah al bh bl : Int} (hx : (0 ≤ ah ∧ ah ≤ 18446744073709551615) ∧ (0 ≤ al ∧ al ≤ 18446744073709551615)) (hy : (0 ≤ bh ∧ bh ≤ 18446744073709551615) ∧ (0 ≤ bl ∧ bl ≤ 18446744073709551615)) (h : ah = 0 ∨ bh = 0) :
    ∃ p, PTF.bits_Mul64.f (Go.bits .or .u64 ah bh) (bif (ah != 0) then bl else al) = some (p / 18446744073709551616, p % 18446744073709551616) ∧ 0 ≤ p ∧ (ah * 18446744073709551616 + al) * (bh * 18446744073709551616 + bl) = p * 18446744073709551616 + al * bl := by
  rcases h with rfl | rfl
  · refine ⟨bh * al, ?_, Int.mul_nonneg hy.1.1 hx.2.1, ?_⟩
    · rw [or_zero_l hy.1, show (bif ((0 : Int) != 0) then bl else al) = al from rfl]
      exact PTF.Mul64_f hy.1 hx.2
    · rw [Int.zero_mul, Int.zero_add, Int.mul_add, Int.mul_comm bh al, Int.mul_assoc]
  · by_cases h0 : ah = 0
    · subst h0
      refine ⟨0, ?_, by omega, ?_⟩
      · rw [or_zero_l ⟨Int.le_refl 0, by decide⟩, show (bif ((0 : Int) != 0) then bl else al) = al from rfl, PTF.Mul64_f (by omega) hx.2, Int.zero_mul]
      · rw [Int.zero_mul, Int.zero_add, Int.zero_add, Int.zero_add]
    · refine ⟨ah * bl, ?_, Int.mul_nonneg hx.1.1 hy.2.1, ?_⟩
      · rw [or_zero_r hx.1, show (bif (ah != 0) then bl else al) = bl from by rw [bne_iff_ne.2 h0]; rfl]
        exact PTF.Mul64_f hx.1 hy.2
      · rw [Int.zero_mul, Int.zero_add, Int.add_mul, Int.mul_right_comm]
theorem Mul.calls (a0_0 a0_1 a1_0 a1_1 r1 r2 r3 : Int) (w : World) (h : Mul.f a0_0 a0_1 a1_0 a1_1 = some (r1, r2, r3)) :
    Calls Try.prog 12 #[.agg #[.int .i64 a0_0, .int .u64 a0_1], .agg #[.int .i64 a1_0, .int .u64 a1_1]] w fun e w' => e = .returned (.tuple #[.agg #[.int .i64 r1, .int .u64 r2], .int .i64 r3]) ∧ Below w.heap.size w w' := by
  unfold Mul.f at h
  split at h
  · rename_i hb
    have h := Option.some.inj h
    obtain ⟨ha, hb⟩ := hb
    have hA := Abs_f ha
    have hB := Abs_f hb
    have iA := wabs_in ha
    have iB := wabs_in hb
    rw [wmul_sign] at h
    rw [← wneg_dec ha, ← wneg_dec hb] at h
    have eA : wabs (wv a0_0 a0_1) = wabs (wv a0_0 a0_1) / 18446744073709551616 * 18446744073709551616 + wabs (wv a0_0 a0_1) % 18446744073709551616 := by omega
    have eB : wabs (wv a1_0 a1_1) = wabs (wv a1_0 a1_1) / 18446744073709551616 * 18446744073709551616 + wabs (wv a1_0 a1_1) % 18446744073709551616 := by omega
    have jA : (0 ≤ wabs (wv a0_0 a0_1) / 18446744073709551616 ∧ wabs (wv a0_0 a0_1) / 18446744073709551616 ≤ 18446744073709551615) ∧ (0 ≤ wabs (wv a0_0 a0_1) % 18446744073709551616 ∧ wabs (wv a0_0 a0_1) % 18446744073709551616 ≤ 18446744073709551615) := by omega
    have jB : (0 ≤ wabs (wv a1_0 a1_1) / 18446744073709551616 ∧ wabs (wv a1_0 a1_1) / 18446744073709551616 ≤ 18446744073709551615) ∧ (0 ≤ wabs (wv a1_0 a1_1) % 18446744073709551616 ∧ wabs (wv a1_0 a1_1) % 18446744073709551616 ≤ 18446744073709551615) := by omega
    generalize wabs (wv a0_0 a0_1) / 18446744073709551616 = ah at *
    generalize wabs (wv a0_0 a0_1) % 18446744073709551616 = al at *
    generalize wabs (wv a1_0 a1_1) / 18446744073709551616 = bh at *
    generalize wabs (wv a1_0 a1_1) % 18446744073709551616 = bl at *
    rw [eA, eB] at h
    by_cases h0 : ah = 0 ∨ bh = 0
    · obtain ⟨p, hp, p0, ep⟩ := cross_f jA jB h0
      rw [ep] at h
      have hm := PTF.Mul64_f jA.2 jB.2
      have m0 : 0 ≤ al * bl := Int.mul_nonneg jA.2.1 jB.2.1
      have m1 : al * bl ≤ 340282366920938463426481119284349108225 := Int.le_trans (Int.mul_le_mul jA.2.2 jB.2.2 jB.2.1 (by omega)) (by decide)
      generalize al * bl = m at *
      have c0 : add64Hi (m / 18446744073709551616) (p % 18446744073709551616) 0 = (m / 18446744073709551616 + p % 18446744073709551616) / 18446744073709551616 := by rw [add64_hi (by omega) (by omega) (by omega), Int.add_zero]
      have c1 : decide (add64Hi (m / 18446744073709551616) (p % 18446744073709551616) 0 ≤ 1) = true := decide_eq_true (by rw [c0]; omega)
      have hxy : ((ah != 0) && (bh != 0)) = false := by rcases h0 with rfl | rfl <;> simp
      by_cases h1 : p / 18446744073709551616 = 0 ∧ (m / 18446744073709551616 + p % 18446744073709551616) / 18446744073709551616 = 0
      · have hu : (p / 18446744073709551616 != 0) = false := bne_eq_false_iff_eq.2 h1.1
        have hv : (add64Hi (m / 18446744073709551616) (p % 18446744073709551616) 0 != 0) = false := by rw [c0]; exact bne_eq_false_iff_eq.2 h1.2
        refine Mul_w2 _ _ _ _ _ _ _ _ w hA hB _ _ hxy rfl rfl _ _ _ _ _ hm rfl hp _ _ hu hv rfl c1 _ _ _ ?_
        rw [add64_lo (by omega) (by omega) (by omega), Join_f _ (by omega) (by omega), ← h]
        congr 3 <;> omega
      · have huv : ((p / 18446744073709551616 != 0) || (add64Hi (m / 18446744073709551616) (p % 18446744073709551616) 0 != 0)) = true := by
          rw [c0, Bool.or_eq_true, bne_iff_ne, bne_iff_ne]
          omega
        have := Mul_w1 _ _ _ _ _ _ _ _ w hA hB _ _ hxy rfl rfl _ _ _ _ _ hm rfl hp _ _ rfl rfl huv c1
        rw [wans_big (by omega)] at h
        obtain ⟨rfl, rfl, rfl⟩ := by simpa only [Prod.mk.injEq] using h
        exact this
    · have := Mul_w0 _ _ _ _ _ _ _ _ w hA hB (bne_iff_ne.2 (by omega)) (bne_iff_ne.2 (by omega))
      have hp : 18446744073709551616 * 18446744073709551616 ≤ (ah * 18446744073709551616 + al) * (bh * 18446744073709551616 + bl) := Int.mul_le_mul (by omega) (by omega) (by omega) (by omega)
      rw [wans_big (by omega)] at h
      obtain ⟨rfl, rfl, rfl⟩ := by simpa only [Prod.mk.injEq] using h
      exact this
  · cases h
theorem Mul_f {a0 a1 b0 b1 : Int} (ha : WB a0 a1) (hb : WB b0 b1) : Mul.f a0 a1 b0 b1 = some (wans (wv a0 a1 * wv b0 b1)) := if_pos ⟨ha, hb⟩
set_option maxHeartbeats 4000000 in
set_option maxRecDepth 100000 in
theorem QuoRem_w0 (a0_0 a0_1 a1_0 a1_1 : Int) (w : World) (hx : (a1_0 == 0) = true) (hy : (a1_1 == 0) = true) :
    Calls Try.prog 14 #[.agg #[.int .i64 a0_0, .int .u64 a0_1], .agg #[.int .i64 a1_0, .int .u64 a1_1]] w fun e w' => e = .returned (.tuple #[.agg #[.int .i64 0, .int .u64 0], .agg #[.int .i64 0, .int .u64 0], .int .i64 20]) ∧ Below w.heap.size w w' := by
  go_enter Try.func14, Try.ntmps14
  go_wp2_with fail
  exact bodyPost_ret (by simp [results, Try.results14, go_sem]) rfl ⟨rfl, by repeat (with_reducible first | apply pw_below_drewN | apply below_drew1 | apply below_alloc | exact Below.refl _ _ | (refine below_set ?_ (by first | omega | (simp; omega))) | (refine below_next ?_ (by assumption)))⟩
set_option maxHeartbeats 4000000 in
set_option maxRecDepth 100000 in
theorem QuoRem_w1 (a0_0 a0_1 a1_0 a1_1 ah al bh bl : Int) (w : World) (hA : WF.Abs.f a0_0 a0_1 = some (ah, al)) (hB : WF.Abs.f a1_0 a1_1 = some (bh, bl)) (x y : Bool) (hxy : (x && y) = false) (hx : (a1_0 == 0) = x) (hy : (a1_1 == 0) = y)
    (qh ql rh rl : Int) (k : Nat) (hQ : PTF.times_quoRem.f k ah al bh bl = some (qh, ql, rh, rl)) (q1 q2 ee : Int) (hJ : WF.Join.f (decide (a0_0 < 0) != decide (a1_0 < 0)) qh ql = some (q1, q2, ee)) (he : (ee != 0) = true) :
    Calls Try.prog 14 #[.agg #[.int .i64 a0_0, .int .u64 a0_1], .agg #[.int .i64 a1_0, .int .u64 a1_1]] w fun e w' => e = .returned (.tuple #[.agg #[.int .i64 0, .int .u64 0], .agg #[.int .i64 0, .int .u64 0], .int .i64 ee]) ∧ Below w.heap.size w w' := by
  have HA := fun W => Lib.hid (WF.Abs.calls _ _ _ _ W hA)
  have HB := fun W => Lib.hid (WF.Abs.calls _ _ _ _ W hB)
  clear hA hB
  have HQ := fun W => Lib.hid (PTF.times_quoRem.calls _ _ _ _ _ _ _ _ _ W hQ)
  have HJ := fun W => Lib.hid (WF.Join.calls _ _ _ _ _ _ W hJ)
  clear hQ hJ
  cases x <;> cases y <;> first | (exact absurd hxy (by decide)) | skip
  all_goals
  · go_enter Try.func14, Try.ntmps14
    go_wp2_with fail
    refine ((HA _).out).mono ?_
    rintro e w1 ⟨rfl, hb1⟩
    obtain ⟨hc1, hf1⟩ := bcell hb1
    have z1 : w.heap.size + 3 < w1.heap.size := (by have := hb1.size; (try simp at this); omega)
    have s1_0 : w.heap.size < w1.heap.size := (by omega)
    have s1_1 : w.heap.size + 1 < w1.heap.size := (by omega)
    have s1_2 : w.heap.size + 1 + 1 < w1.heap.size := (by omega)
    have s1_3 : w.heap.size + 1 + 1 + 1 < w1.heap.size := (by omega)
    have p1_0_0 : w1.cell? ⟨w.heap.size, 0, none⟩ = some (.int .i64 a0_0) := (by rw [hc1 _ _ (by first | omega | (simp; done) | (simp; omega))]; simp [go_sem])
    have p1_0_1 : w1.cell? ⟨w.heap.size, 1, none⟩ = some (.int .u64 a0_1) := (by rw [hc1 _ _ (by first | omega | (simp; done) | (simp; omega))]; simp [go_sem])
    have p1_1_0 : w1.cell? ⟨w.heap.size + 1, 0, none⟩ = some (.int .i64 a1_0) := (by rw [hc1 _ _ (by first | omega | (simp; done) | (simp; omega))]; simp [go_sem])
    have p1_1_1 : w1.cell? ⟨w.heap.size + 1, 1, none⟩ = some (.int .u64 a1_1) := (by rw [hc1 _ _ (by first | omega | (simp; done) | (simp; omega))]; simp [go_sem])
    have p1_2_0 : w1.cell? ⟨w.heap.size + 1 + 1, 0, none⟩ = some (.int .i64 0) := (by rw [hc1 _ _ (by first | omega | (simp; done) | (simp; omega))]; simp [go_sem])
    have p1_2_1 : w1.cell? ⟨w.heap.size + 1 + 1, 1, none⟩ = some (.int .u64 0) := (by rw [hc1 _ _ (by first | omega | (simp; done) | (simp; omega))]; simp [go_sem])
    have p1_3_0 : w1.cell? ⟨w.heap.size + 1 + 1 + 1, 0, none⟩ = some (.int .i64 0) := (by rw [hc1 _ _ (by first | omega | (simp; done) | (simp; omega))]; simp [go_sem])
    have p1_3_1 : w1.cell? ⟨w.heap.size + 1 + 1 + 1, 1, none⟩ = some (.int .u64 0) := (by rw [hc1 _ _ (by first | omega | (simp; done) | (simp; omega))]; simp [go_sem])
    go_wp2_with fail
    refine ((HB _).out).mono ?_
    rintro e w2 ⟨rfl, hb2⟩
    obtain ⟨hc2, hf2⟩ := bcell hb2
    have z2 : w.heap.size + 3 < w2.heap.size := (by have := hb2.size; (try simp at this); omega)
    have s2_0 : w.heap.size < w2.heap.size := (by omega)
    have s2_1 : w.heap.size + 1 < w2.heap.size := (by omega)
    have s2_2 : w.heap.size + 1 + 1 < w2.heap.size := (by omega)
    have s2_3 : w.heap.size + 1 + 1 + 1 < w2.heap.size := (by omega)
    have p2_0_0 : w2.cell? ⟨w.heap.size, 0, none⟩ = some (.int .i64 a0_0) := (by rw [hc2 _ _ (by first | omega | (simp; done) | (simp; omega))]; simp [go_sem, p1_0_0, s1_0, s1_1, s1_2, s1_3])
    have p2_0_1 : w2.cell? ⟨w.heap.size, 1, none⟩ = some (.int .u64 a0_1) := (by rw [hc2 _ _ (by first | omega | (simp; done) | (simp; omega))]; simp [go_sem, p1_0_1, s1_0, s1_1, s1_2, s1_3])
    have p2_1_0 : w2.cell? ⟨w.heap.size + 1, 0, none⟩ = some (.int .i64 a1_0) := (by rw [hc2 _ _ (by first | omega | (simp; done) | (simp; omega))]; simp [go_sem, p1_1_0, s1_0, s1_1, s1_2, s1_3])
    have p2_1_1 : w2.cell? ⟨w.heap.size + 1, 1, none⟩ = some (.int .u64 a1_1) := (by rw [hc2 _ _ (by first | omega | (simp; done) | (simp; omega))]; simp [go_sem, p1_1_1, s1_0, s1_1, s1_2, s1_3])
    have p2_2_0 : w2.cell? ⟨w.heap.size + 1 + 1, 0, none⟩ = some (.int .i64 0) := (by rw [hc2 _ _ (by first | omega | (simp; done) | (simp; omega))]; simp [go_sem, p1_2_0, s1_0, s1_1, s1_2, s1_3])
    have p2_2_1 : w2.cell? ⟨w.heap.size + 1 + 1, 1, none⟩ = some (.int .u64 0) := (by rw [hc2 _ _ (by first | omega | (simp; done) | (simp; omega))]; simp [go_sem, p1_2_1, s1_0, s1_1, s1_2, s1_3])
    have p2_3_0 : w2.cell? ⟨w.heap.size + 1 + 1 + 1, 0, none⟩ = some (.int .i64 0) := (by rw [hc2 _ _ (by first | omega | (simp; done) | (simp; omega))]; simp [go_sem, p1_3_0, s1_0, s1_1, s1_2, s1_3])
    have p2_3_1 : w2.cell? ⟨w.heap.size + 1 + 1 + 1, 1, none⟩ = some (.int .u64 0) := (by rw [hc2 _ _ (by first | omega | (simp; done) | (simp; omega))]; simp [go_sem, p1_3_1, s1_0, s1_1, s1_2, s1_3])
    go_wp2_with fail
    refine ((HQ _).out).mono ?_
    rintro e w3 ⟨rfl, hb3⟩
    obtain ⟨hc3, hf3⟩ := bcell hb3
    have z3 : w.heap.size + 3 < w3.heap.size := (by have := hb3.size; (try simp at this); omega)
    have s3_0 : w.heap.size < w3.heap.size := (by omega)
    have s3_1 : w.heap.size + 1 < w3.heap.size := (by omega)
    have s3_2 : w.heap.size + 1 + 1 < w3.heap.size := (by omega)
    have s3_3 : w.heap.size + 1 + 1 + 1 < w3.heap.size := (by omega)
    have p3_0_0 : w3.cell? ⟨w.heap.size, 0, none⟩ = some (.int .i64 a0_0) := (by rw [hc3 _ _ (by first | omega | (simp; done) | (simp; omega))]; simp [go_sem, p2_0_0, s2_0, s2_1, s2_2, s2_3])
    have p3_0_1 : w3.cell? ⟨w.heap.size, 1, none⟩ = some (.int .u64 a0_1) := (by rw [hc3 _ _ (by first | omega | (simp; done) | (simp; omega))]; simp [go_sem, p2_0_1, s2_0, s2_1, s2_2, s2_3])
    have p3_1_0 : w3.cell? ⟨w.heap.size + 1, 0, none⟩ = some (.int .i64 a1_0) := (by rw [hc3 _ _ (by first | omega | (simp; done) | (simp; omega))]; simp [go_sem, p2_1_0, s2_0, s2_1, s2_2, s2_3])
    have p3_1_1 : w3.cell? ⟨w.heap.size + 1, 1, none⟩ = some (.int .u64 a1_1) := (by rw [hc3 _ _ (by first | omega | (simp; done) | (simp; omega))]; simp [go_sem, p2_1_1, s2_0, s2_1, s2_2, s2_3])
    have p3_2_0 : w3.cell? ⟨w.heap.size + 1 + 1, 0, none⟩ = some (.int .i64 0) := (by rw [hc3 _ _ (by first | omega | (simp; done) | (simp; omega))]; simp [go_sem, p2_2_0, s2_0, s2_1, s2_2, s2_3])
    have p3_2_1 : w3.cell? ⟨w.heap.size + 1 + 1, 1, none⟩ = some (.int .u64 0) := (by rw [hc3 _ _ (by first | omega | (simp; done) | (simp; omega))]; simp [go_sem, p2_2_1, s2_0, s2_1, s2_2, s2_3])
    have p3_3_0 : w3.cell? ⟨w.heap.size + 1 + 1 + 1, 0, none⟩ = some (.int .i64 0) := (by rw [hc3 _ _ (by first | omega | (simp; done) | (simp; omega))]; simp [go_sem, p2_3_0, s2_0, s2_1, s2_2, s2_3])
    have p3_3_1 : w3.cell? ⟨w.heap.size + 1 + 1 + 1, 1, none⟩ = some (.int .u64 0) := (by rw [hc3 _ _ (by first | omega | (simp; done) | (simp; omega))]; simp [go_sem, p2_3_1, s2_0, s2_1, s2_2, s2_3])
    go_wp2_with fail
    refine ((HJ _).out).mono ?_
    rintro e w4 ⟨rfl, hb4⟩
    obtain ⟨hc4, hf4⟩ := bcell hb4
    have z4 : w.heap.size + 3 < w4.heap.size := (by have := hb4.size; (try simp at this); omega)
    have s4_0 : w.heap.size < w4.heap.size := (by omega)
    have s4_1 : w.heap.size + 1 < w4.heap.size := (by omega)
    have s4_2 : w.heap.size + 1 + 1 < w4.heap.size := (by omega)
    have s4_3 : w.heap.size + 1 + 1 + 1 < w4.heap.size := (by omega)
    have p4_0_0 : w4.cell? ⟨w.heap.size, 0, none⟩ = some (.int .i64 a0_0) := (by rw [hc4 _ _ (by first | omega | (simp; done) | (simp; omega))]; simp [go_sem, p3_0_0, s3_0, s3_1, s3_2, s3_3])
    have p4_0_1 : w4.cell? ⟨w.heap.size, 1, none⟩ = some (.int .u64 a0_1) := (by rw [hc4 _ _ (by first | omega | (simp; done) | (simp; omega))]; simp [go_sem, p3_0_1, s3_0, s3_1, s3_2, s3_3])
    have p4_1_0 : w4.cell? ⟨w.heap.size + 1, 0, none⟩ = some (.int .i64 a1_0) := (by rw [hc4 _ _ (by first | omega | (simp; done) | (simp; omega))]; simp [go_sem, p3_1_0, s3_0, s3_1, s3_2, s3_3])
    have p4_1_1 : w4.cell? ⟨w.heap.size + 1, 1, none⟩ = some (.int .u64 a1_1) := (by rw [hc4 _ _ (by first | omega | (simp; done) | (simp; omega))]; simp [go_sem, p3_1_1, s3_0, s3_1, s3_2, s3_3])
    have p4_2_0 : w4.cell? ⟨w.heap.size + 1 + 1, 0, none⟩ = some (.int .i64 0) := (by rw [hc4 _ _ (by first | omega | (simp; done) | (simp; omega))]; simp [go_sem, p3_2_0, s3_0, s3_1, s3_2, s3_3])
    have p4_2_1 : w4.cell? ⟨w.heap.size + 1 + 1, 1, none⟩ = some (.int .u64 0) := (by rw [hc4 _ _ (by first | omega | (simp; done) | (simp; omega))]; simp [go_sem, p3_2_1, s3_0, s3_1, s3_2, s3_3])
    have p4_3_0 : w4.cell? ⟨w.heap.size + 1 + 1 + 1, 0, none⟩ = some (.int .i64 0) := (by rw [hc4 _ _ (by first | omega | (simp; done) | (simp; omega))]; simp [go_sem, p3_3_0, s3_0, s3_1, s3_2, s3_3])
    have p4_3_1 : w4.cell? ⟨w.heap.size + 1 + 1 + 1, 1, none⟩ = some (.int .u64 0) := (by rw [hc4 _ _ (by first | omega | (simp; done) | (simp; omega))]; simp [go_sem, p3_3_1, s3_0, s3_1, s3_2, s3_3])
    go_wp2_with fail
    exact bodyPost_ret (by simp [results, Try.results14, go_sem, p4_0_0, p4_0_1, p4_1_0, p4_1_1, p4_2_0, p4_2_1, p4_3_0, p4_3_1, s4_0, s4_1, s4_2, s4_3]) rfl ⟨rfl, by repeat (with_reducible first | apply pw_below_drewN | apply below_drew1 | apply below_alloc | exact Below.refl _ _ | (refine below_set ?_ (by first | omega | (simp; omega))) | (refine below_next ?_ (by assumption)))⟩
set_option maxHeartbeats 4000000 in
set_option maxRecDepth 100000 in
theorem QuoRem_w2 (a0_0 a0_1 a1_0 a1_1 ah al bh bl : Int) (w : World) (hA : WF.Abs.f a0_0 a0_1 = some (ah, al)) (hB : WF.Abs.f a1_0 a1_1 = some (bh, bl)) (x y : Bool) (hxy : (x && y) = false) (hx : (a1_0 == 0) = x) (hy : (a1_1 == 0) = y)
    (qh ql rh rl : Int) (k : Nat) (hQ : PTF.times_quoRem.f k ah al bh bl = some (qh, ql, rh, rl)) (q1 q2 ee : Int) (hJ : WF.Join.f (decide (a0_0 < 0) != decide (a1_0 < 0)) qh ql = some (q1, q2, ee)) (he : (ee != 0) = false) (r1 r2 e2 : Int) (hR : WF.Join.f (decide (a0_0 < 0)) rh rl = some (r1, r2, e2)) :
    Calls Try.prog 14 #[.agg #[.int .i64 a0_0, .int .u64 a0_1], .agg #[.int .i64 a1_0, .int .u64 a1_1]] w fun e w' => e = .returned (.tuple #[.agg #[.int .i64 q1, .int .u64 q2], .agg #[.int .i64 r1, .int .u64 r2], .int .i64 e2]) ∧ Below w.heap.size w w' := by
  have HA := fun W => Lib.hid (WF.Abs.calls _ _ _ _ W hA)
  have HB := fun W => Lib.hid (WF.Abs.calls _ _ _ _ W hB)
  clear hA hB
  have HQ := fun W => Lib.hid (PTF.times_quoRem.calls _ _ _ _ _ _ _ _ _ W hQ)
  have HJ := fun W => Lib.hid (WF.Join.calls _ _ _ _ _ _ W hJ)
  clear hQ hJ
  have HR := fun W => Lib.hid (WF.Join.calls _ _ _ _ _ _ W hR)
  clear hR
  cases x <;> cases y <;> first | (exact absurd hxy (by decide)) | skip
  all_goals
  · go_enter Try.func14, Try.ntmps14
    go_wp2_with fail
    refine ((HA _).out).mono ?_
    rintro e w1 ⟨rfl, hb1⟩
    obtain ⟨hc1, hf1⟩ := bcell hb1
    have z1 : w.heap.size + 3 < w1.heap.size := (by have := hb1.size; (try simp at this); omega)
    have s1_0 : w.heap.size < w1.heap.size := (by omega)
    have s1_1 : w.heap.size + 1 < w1.heap.size := (by omega)
    have s1_2 : w.heap.size + 1 + 1 < w1.heap.size := (by omega)
    have s1_3 : w.heap.size + 1 + 1 + 1 < w1.heap.size := (by omega)
    have p1_0_0 : w1.cell? ⟨w.heap.size, 0, none⟩ = some (.int .i64 a0_0) := (by rw [hc1 _ _ (by first | omega | (simp; done) | (simp; omega))]; simp [go_sem])
    have p1_0_1 : w1.cell? ⟨w.heap.size, 1, none⟩ = some (.int .u64 a0_1) := (by rw [hc1 _ _ (by first | omega | (simp; done) | (simp; omega))]; simp [go_sem])
    have p1_1_0 : w1.cell? ⟨w.heap.size + 1, 0, none⟩ = some (.int .i64 a1_0) := (by rw [hc1 _ _ (by first | omega | (simp; done) | (simp; omega))]; simp [go_sem])
    have p1_1_1 : w1.cell? ⟨w.heap.size + 1, 1, none⟩ = some (.int .u64 a1_1) := (by rw [hc1 _ _ (by first | omega | (simp; done) | (simp; omega))]; simp [go_sem])
    have p1_2_0 : w1.cell? ⟨w.heap.size + 1 + 1, 0, none⟩ = some (.int .i64 0) := (by rw [hc1 _ _ (by first | omega | (simp; done) | (simp; omega))]; simp [go_sem])
    have p1_2_1 : w1.cell? ⟨w.heap.size + 1 + 1, 1, none⟩ = some (.int .u64 0) := (by rw [hc1 _ _ (by first | omega | (simp; done) | (simp; omega))]; simp [go_sem])
    have p1_3_0 : w1.cell? ⟨w.heap.size + 1 + 1 + 1, 0, none⟩ = some (.int .i64 0) := (by rw [hc1 _ _ (by first | omega | (simp; done) | (simp; omega))]; simp [go_sem])
    have p1_3_1 : w1.cell? ⟨w.heap.size + 1 + 1 + 1, 1, none⟩ = some (.int .u64 0) := (by rw [hc1 _ _ (by first | omega | (simp; done) | (simp; omega))]; simp [go_sem])
    go_wp2_with fail
    refine ((HB _).out).mono ?_
    rintro e w2 ⟨rfl, hb2⟩
    obtain ⟨hc2, hf2⟩ := bcell hb2
    have z2 : w.heap.size + 3 < w2.heap.size := (by have := hb2.size; (try simp at this); omega)
    have s2_0 : w.heap.size < w2.heap.size := (by omega)
    have s2_1 : w.heap.size + 1 < w2.heap.size := (by omega)
    have s2_2 : w.heap.size + 1 + 1 < w2.heap.size := (by omega)
    have s2_3 : w.heap.size + 1 + 1 + 1 < w2.heap.size := (by omega)
    have p2_0_0 : w2.cell? ⟨w.heap.size, 0, none⟩ = some (.int .i64 a0_0) := (by rw [hc2 _ _ (by first | omega | (simp; done) | (simp; omega))]; simp [go_sem, p1_0_0, s1_0, s1_1, s1_2, s1_3])
    have p2_0_1 : w2.cell? ⟨w.heap.size, 1, none⟩ = some (.int .u64 a0_1) := (by rw [hc2 _ _ (by first | omega | (simp; done) | (simp; omega))]; simp [go_sem, p1_0_1, s1_0, s1_1, s1_2, s1_3])
    have p2_1_0 : w2.cell? ⟨w.heap.size + 1, 0, none⟩ = some (.int .i64 a1_0) := (by rw [hc2 _ _ (by first | omega | (simp; done) | (simp; omega))]; simp [go_sem, p1_1_0, s1_0, s1_1, s1_2, s1_3])
    have p2_1_1 : w2.cell? ⟨w.heap.size + 1, 1, none⟩ = some (.int .u64 a1_1) := (by rw [hc2 _ _ (by first | omega | (simp; done) | (simp; omega))]; simp [go_sem, p1_1_1, s1_0, s1_1, s1_2, s1_3])
    have p2_2_0 : w2.cell? ⟨w.heap.size + 1 + 1, 0, none⟩ = some (.int .i64 0) := (by rw [hc2 _ _ (by first | omega | (simp; done) | (simp; omega))]; simp [go_sem, p1_2_0, s1_0, s1_1, s1_2, s1_3])
    have p2_2_1 : w2.cell? ⟨w.heap.size + 1 + 1, 1, none⟩ = some (.int .u64 0) := (by rw [hc2 _ _ (by first | omega | (simp; done) | (simp; omega))]; simp [go_sem, p1_2_1, s1_0, s1_1, s1_2, s1_3])
    have p2_3_0 : w2.cell? ⟨w.heap.size + 1 + 1 + 1, 0, none⟩ = some (.int .i64 0) := (by rw [hc2 _ _ (by first | omega | (simp; done) | (simp; omega))]; simp [go_sem, p1_3_0, s1_0, s1_1, s1_2, s1_3])
    have p2_3_1 : w2.cell? ⟨w.heap.size + 1 + 1 + 1, 1, none⟩ = some (.int .u64 0) := (by rw [hc2 _ _ (by first | omega | (simp; done) | (simp; omega))]; simp [go_sem, p1_3_1, s1_0, s1_1, s1_2, s1_3])
    go_wp2_with fail
    refine ((HQ _).out).mono ?_
    rintro e w3 ⟨rfl, hb3⟩
    obtain ⟨hc3, hf3⟩ := bcell hb3
    have z3 : w.heap.size + 3 < w3.heap.size := (by have := hb3.size; (try simp at this); omega)
    have s3_0 : w.heap.size < w3.heap.size := (by omega)
    have s3_1 : w.heap.size + 1 < w3.heap.size := (by omega)
    have s3_2 : w.heap.size + 1 + 1 < w3.heap.size := (by omega)
    have s3_3 : w.heap.size + 1 + 1 + 1 < w3.heap.size := (by omega)
    have p3_0_0 : w3.cell? ⟨w.heap.size, 0, none⟩ = some (.int .i64 a0_0) := (by rw [hc3 _ _ (by first | omega | (simp; done) | (simp; omega))]; simp [go_sem, p2_0_0, s2_0, s2_1, s2_2, s2_3])
    have p3_0_1 : w3.cell? ⟨w.heap.size, 1, none⟩ = some (.int .u64 a0_1) := (by rw [hc3 _ _ (by first | omega | (simp; done) | (simp; omega))]; simp [go_sem, p2_0_1, s2_0, s2_1, s2_2, s2_3])
    have p3_1_0 : w3.cell? ⟨w.heap.size + 1, 0, none⟩ = some (.int .i64 a1_0) := (by rw [hc3 _ _ (by first | omega | (simp; done) | (simp; omega))]; simp [go_sem, p2_1_0, s2_0, s2_1, s2_2, s2_3])
    have p3_1_1 : w3.cell? ⟨w.heap.size + 1, 1, none⟩ = some (.int .u64 a1_1) := (by rw [hc3 _ _ (by first | omega | (simp; done) | (simp; omega))]; simp [go_sem, p2_1_1, s2_0, s2_1, s2_2, s2_3])
    have p3_2_0 : w3.cell? ⟨w.heap.size + 1 + 1, 0, none⟩ = some (.int .i64 0) := (by rw [hc3 _ _ (by first | omega | (simp; done) | (simp; omega))]; simp [go_sem, p2_2_0, s2_0, s2_1, s2_2, s2_3])
    have p3_2_1 : w3.cell? ⟨w.heap.size + 1 + 1, 1, none⟩ = some (.int .u64 0) := (by rw [hc3 _ _ (by first | omega | (simp; done) | (simp; omega))]; simp [go_sem, p2_2_1, s2_0, s2_1, s2_2, s2_3])
    have p3_3_0 : w3.cell? ⟨w.heap.size + 1 + 1 + 1, 0, none⟩ = some (.int .i64 0) := (by rw [hc3 _ _ (by first | omega | (simp; done) | (simp; omega))]; simp [go_sem, p2_3_0, s2_0, s2_1, s2_2, s2_3])
    have p3_3_1 : w3.cell? ⟨w.heap.size + 1 + 1 + 1, 1, none⟩ = some (.int .u64 0) := (by rw [hc3 _ _ (by first | omega | (simp; done) | (simp; omega))]; simp [go_sem, p2_3_1, s2_0, s2_1, s2_2, s2_3])
    go_wp2_with fail
    refine ((HJ _).out).mono ?_
    rintro e w4 ⟨rfl, hb4⟩
    obtain ⟨hc4, hf4⟩ := bcell hb4
    have z4 : w.heap.size + 3 < w4.heap.size := (by have := hb4.size; (try simp at this); omega)
    have s4_0 : w.heap.size < w4.heap.size := (by omega)
    have s4_1 : w.heap.size + 1 < w4.heap.size := (by omega)
    have s4_2 : w.heap.size + 1 + 1 < w4.heap.size := (by omega)
    have s4_3 : w.heap.size + 1 + 1 + 1 < w4.heap.size := (by omega)
    have p4_0_0 : w4.cell? ⟨w.heap.size, 0, none⟩ = some (.int .i64 a0_0) := (by rw [hc4 _ _ (by first | omega | (simp; done) | (simp; omega))]; simp [go_sem, p3_0_0, s3_0, s3_1, s3_2, s3_3])
    have p4_0_1 : w4.cell? ⟨w.heap.size, 1, none⟩ = some (.int .u64 a0_1) := (by rw [hc4 _ _ (by first | omega | (simp; done) | (simp; omega))]; simp [go_sem, p3_0_1, s3_0, s3_1, s3_2, s3_3])
    have p4_1_0 : w4.cell? ⟨w.heap.size + 1, 0, none⟩ = some (.int .i64 a1_0) := (by rw [hc4 _ _ (by first | omega | (simp; done) | (simp; omega))]; simp [go_sem, p3_1_0, s3_0, s3_1, s3_2, s3_3])
    have p4_1_1 : w4.cell? ⟨w.heap.size + 1, 1, none⟩ = some (.int .u64 a1_1) := (by rw [hc4 _ _ (by first | omega | (simp; done) | (simp; omega))]; simp [go_sem, p3_1_1, s3_0, s3_1, s3_2, s3_3])
    have p4_2_0 : w4.cell? ⟨w.heap.size + 1 + 1, 0, none⟩ = some (.int .i64 0) := (by rw [hc4 _ _ (by first | omega | (simp; done) | (simp; omega))]; simp [go_sem, p3_2_0, s3_0, s3_1, s3_2, s3_3])
    have p4_2_1 : w4.cell? ⟨w.heap.size + 1 + 1, 1, none⟩ = some (.int .u64 0) := (by rw [hc4 _ _ (by first | omega | (simp; done) | (simp; omega))]; simp [go_sem, p3_2_1, s3_0, s3_1, s3_2, s3_3])
    have p4_3_0 : w4.cell? ⟨w.heap.size + 1 + 1 + 1, 0, none⟩ = some (.int .i64 0) := (by rw [hc4 _ _ (by first | omega | (simp; done) | (simp; omega))]; simp [go_sem, p3_3_0, s3_0, s3_1, s3_2, s3_3])
    have p4_3_1 : w4.cell? ⟨w.heap.size + 1 + 1 + 1, 1, none⟩ = some (.int .u64 0) := (by rw [hc4 _ _ (by first | omega | (simp; done) | (simp; omega))]; simp [go_sem, p3_3_1, s3_0, s3_1, s3_2, s3_3])
    go_wp2_with fail
    refine ((HR _).out).mono ?_
    rintro e w5 ⟨rfl, hb5⟩
    obtain ⟨hc5, hf5⟩ := bcell hb5
    have z5 : w.heap.size + 3 < w5.heap.size := (by have := hb5.size; (try simp at this); omega)
    have s5_0 : w.heap.size < w5.heap.size := (by omega)
    have s5_1 : w.heap.size + 1 < w5.heap.size := (by omega)
    have s5_2 : w.heap.size + 1 + 1 < w5.heap.size := (by omega)
    have s5_3 : w.heap.size + 1 + 1 + 1 < w5.heap.size := (by omega)
    have p5_0_0 : w5.cell? ⟨w.heap.size, 0, none⟩ = some (.int .i64 a0_0) := (by rw [hc5 _ _ (by first | omega | (simp; done) | (simp; omega))]; simp [go_sem, p4_0_0, s4_0, s4_1, s4_2, s4_3])
    have p5_0_1 : w5.cell? ⟨w.heap.size, 1, none⟩ = some (.int .u64 a0_1) := (by rw [hc5 _ _ (by first | omega | (simp; done) | (simp; omega))]; simp [go_sem, p4_0_1, s4_0, s4_1, s4_2, s4_3])
    have p5_1_0 : w5.cell? ⟨w.heap.size + 1, 0, none⟩ = some (.int .i64 a1_0) := (by rw [hc5 _ _ (by first | omega | (simp; done) | (simp; omega))]; simp [go_sem, p4_1_0, s4_0, s4_1, s4_2, s4_3])
    have p5_1_1 : w5.cell? ⟨w.heap.size + 1, 1, none⟩ = some (.int .u64 a1_1) := (by rw [hc5 _ _ (by first | omega | (simp; done) | (simp; omega))]; simp [go_sem, p4_1_1, s4_0, s4_1, s4_2, s4_3])
    have p5_2_0 : w5.cell? ⟨w.heap.size + 1 + 1, 0, none⟩ = some (.int .i64 0) := (by rw [hc5 _ _ (by first | omega | (simp; done) | (simp; omega))]; simp [go_sem, p4_2_0, s4_0, s4_1, s4_2, s4_3])
    have p5_2_1 : w5.cell? ⟨w.heap.size + 1 + 1, 1, none⟩ = some (.int .u64 0) := (by rw [hc5 _ _ (by first | omega | (simp; done) | (simp; omega))]; simp [go_sem, p4_2_1, s4_0, s4_1, s4_2, s4_3])
    have p5_3_0 : w5.cell? ⟨w.heap.size + 1 + 1 + 1, 0, none⟩ = some (.int .i64 0) := (by rw [hc5 _ _ (by first | omega | (simp; done) | (simp; omega))]; simp [go_sem, p4_3_0, s4_0, s4_1, s4_2, s4_3])
    have p5_3_1 : w5.cell? ⟨w.heap.size + 1 + 1 + 1, 1, none⟩ = some (.int .u64 0) := (by rw [hc5 _ _ (by first | omega | (simp; done) | (simp; omega))]; simp [go_sem, p4_3_1, s4_0, s4_1, s4_2, s4_3])
    have t5 : w4.heap.size < w5.heap.size := (by have := hb5.size; simp at this; omega)
    have pq0 : w5.cell? ⟨w4.heap.size, 0, none⟩ = some (.int .i64 q1) := (by rw [hc5 _ _ (by simp)]; simp [go_sem])
    have pq1 : w5.cell? ⟨w4.heap.size, 1, none⟩ = some (.int .u64 q2) := (by rw [hc5 _ _ (by simp)]; simp [go_sem])
    go_wp2_with fail
    go_region
    go_wp2_with fail
    exact bodyPost_ret (by simp [results, Try.results14, go_sem, p5_0_0, p5_0_1, p5_1_0, p5_1_1, p5_2_0, p5_2_1, p5_3_0, p5_3_1, s5_0, s5_1, s5_2, s5_3]) rfl ⟨rfl, by repeat (with_reducible first | apply pw_below_drewN | apply below_drew1 | apply below_alloc | exact Below.refl _ _ | (refine below_set ?_ (by first | omega | (simp; omega))) | (refine below_next ?_ (by assumption)))⟩
def qans (a b : Int) : Int × Int × Int × Int × Int := if b = 0 then (0, 0, 0, 0, 20) else if a = -170141183460469231731687303715884105728 ∧ b = -1 then (0, 0, 0, 0, 10) else (Int.tdiv a b / 18446744073709551616, Int.tdiv a b % 18446744073709551616, Int.tmod a b / 18446744073709551616, Int.tmod a b % 18446744073709551616, 0)
theorem tdiv_wabs (a b : Int) : Int.tdiv a b = if (decide (a < 0) != decide (b < 0)) = true then -(wabs a / wabs b) else wabs a / wabs b := by
  unfold wabs
  by_cases h1 : a < 0 <;> by_cases h2 : b < 0 <;> simp only [h1, h2, decide_true, decide_false, if_true, if_false, bne_self_eq_false, Bool.false_eq_true, show (true != false) = true from rfl, show (false != true) = true from rfl]
  · rw [← Int.tdiv_eq_ediv_of_nonneg (by omega), Int.neg_tdiv, Int.tdiv_neg, Int.neg_neg]
  · rw [← Int.tdiv_eq_ediv_of_nonneg (by omega), Int.neg_tdiv, Int.neg_neg]
  · rw [← Int.tdiv_eq_ediv_of_nonneg (by omega), Int.tdiv_neg, Int.neg_neg]
  · rw [← Int.tdiv_eq_ediv_of_nonneg (by omega)]
theorem tmod_wabs (a b : Int) : Int.tmod a b = if decide (a < 0) = true then -(wabs a % wabs b) else wabs a % wabs b := by
  unfold wabs
  by_cases h1 : a < 0 <;> by_cases h2 : b < 0 <;> simp only [h1, h2, decide_true, decide_false, if_true, if_false, Bool.false_eq_true]
  · rw [← Int.tmod_eq_emod_of_nonneg (by omega), Int.neg_tmod, Int.tmod_neg, Int.neg_neg]
  · rw [← Int.tmod_eq_emod_of_nonneg (by omega), Int.neg_tmod, Int.neg_neg]
  · rw [← Int.tmod_eq_emod_of_nonneg (by omega), Int.tmod_neg]
  · rw [← Int.tmod_eq_emod_of_nonneg (by omega)]
def QuoRem.f (a0_0 a0_1 a1_0 a1_1 : Int) : Option (Int × Int × Int × Int × Int) := if WB a0_0 a0_1 ∧ WB a1_0 a1_1 then some (qans (wv a0_0 a0_1) (wv a1_0 a1_1)) else none
theorem QuoRem.calls (a0_0 a0_1 a1_0 a1_1 r1 r2 r3 r4 r5 : Int) (w : World) (h : QuoRem.f a0_0 a0_1 a1_0 a1_1 = some (r1, r2, r3, r4, r5)) :
    Calls Try.prog 14 #[.agg #[.int .i64 a0_0, .int .u64 a0_1], .agg #[.int .i64 a1_0, .int .u64 a1_1]] w fun e w' => e = .returned (.tuple #[.agg #[.int .i64 r1, .int .u64 r2], .agg #[.int .i64 r3, .int .u64 r4], .int .i64 r5]) ∧ Below w.heap.size w w' := by
  unfold QuoRem.f at h
  split at h
  · rename_i hb
    have h := Option.some.inj h
    obtain ⟨ha, hb⟩ := hb
    have hA := Abs_f ha
    have hB := Abs_f hb
    have iA := wabs_in ha
    have iB := wabs_in hb
    have iA' := wv_in ha
    have iB' := wv_in hb
    have hz : wv a1_0 a1_1 = 0 ↔ a1_0 = 0 ∧ a1_1 = 0 := by unfold WB at hb; unfold wv; omega
    unfold qans at h
    by_cases h0 : wv a1_0 a1_1 = 0
    · rw [if_pos h0] at h
      obtain ⟨rfl, rfl, rfl, rfl, rfl⟩ := by simpa only [Prod.mk.injEq] using h
      exact QuoRem_w0 _ _ _ _ w (beq_iff_eq.2 (hz.1 h0).1) (beq_iff_eq.2 (hz.1 h0).2)
    · rw [if_neg h0] at h
      have hxy : ((a1_0 == 0) && (a1_1 == 0)) = false := by
        rw [← Bool.not_eq_true, Bool.and_eq_true, beq_iff_eq, beq_iff_eq, ← hz]
        exact h0
      have hB1 : 1 ≤ wabs (wv a1_0 a1_1) := by unfold wabs; split <;> omega
      have eA : wabs (wv a0_0 a0_1) / 18446744073709551616 * 18446744073709551616 + wabs (wv a0_0 a0_1) % 18446744073709551616 = wabs (wv a0_0 a0_1) := by omega
      have eB : wabs (wv a1_0 a1_1) / 18446744073709551616 * 18446744073709551616 + wabs (wv a1_0 a1_1) % 18446744073709551616 = wabs (wv a1_0 a1_1) := by omega
      have hQ := PTF.quoRem_f (ah := wabs (wv a0_0 a0_1) / 18446744073709551616) (al := wabs (wv a0_0 a0_1) % 18446744073709551616) (bh := wabs (wv a1_0 a1_1) / 18446744073709551616) (bl := wabs (wv a1_0 a1_1) % 18446744073709551616) (by omega) (by omega) (by omega) (by omega) (by omega) 200 (by omega)
      rw [eA, eB] at hQ
      have q0 : 0 ≤ wabs (wv a0_0 a0_1) / wabs (wv a1_0 a1_1) := Int.ediv_nonneg iA.1 (by omega)
      have q1 : wabs (wv a0_0 a0_1) / wabs (wv a1_0 a1_1) ≤ wabs (wv a0_0 a0_1) := Int.ediv_le_self _ iA.1
      have r0 := Int.emod_nonneg (wabs (wv a0_0 a0_1)) (show wabs (wv a1_0 a1_1) ≠ 0 by omega)
      have r1' := Int.emod_lt_of_pos (wabs (wv a0_0 a0_1)) (show 0 < wabs (wv a1_0 a1_1) by omega)
      have hJ := Join_f (decide (a0_0 < 0) != decide (a1_0 < 0)) (hi := wabs (wv a0_0 a0_1) / wabs (wv a1_0 a1_1) / 18446744073709551616) (lo := wabs (wv a0_0 a0_1) / wabs (wv a1_0 a1_1) % 18446744073709551616) (by omega) (by omega)
      rw [show wabs (wv a0_0 a0_1) / wabs (wv a1_0 a1_1) / 18446744073709551616 * 18446744073709551616 + wabs (wv a0_0 a0_1) / wabs (wv a1_0 a1_1) % 18446744073709551616 = wabs (wv a0_0 a0_1) / wabs (wv a1_0 a1_1) from by omega] at hJ
      rw [wneg_dec ha, wneg_dec hb, ← tdiv_wabs, ← wneg_dec ha, ← wneg_dec hb] at hJ
      have hR := Join_f (decide (a0_0 < 0)) (hi := wabs (wv a0_0 a0_1) % wabs (wv a1_0 a1_1) / 18446744073709551616) (lo := wabs (wv a0_0 a0_1) % wabs (wv a1_0 a1_1) % 18446744073709551616) (by omega) (by omega)
      rw [show wabs (wv a0_0 a0_1) % wabs (wv a1_0 a1_1) / 18446744073709551616 * 18446744073709551616 + wabs (wv a0_0 a0_1) % wabs (wv a1_0 a1_1) % 18446744073709551616 = wabs (wv a0_0 a0_1) % wabs (wv a1_0 a1_1) from by omega] at hR
      rw [wneg_dec ha, ← tmod_wabs, ← wneg_dec ha] at hR
      have ht := tdiv_wabs (wv a0_0 a0_1) (wv a1_0 a1_1)
      have hm := tmod_wabs (wv a0_0 a0_1) (wv a1_0 a1_1)
      by_cases h1 : wv a0_0 a0_1 = -170141183460469231731687303715884105728 ∧ wv a1_0 a1_1 = -1
      · rw [if_pos h1] at h
        rw [wans_out (by rw [h1.1, h1.2]; decide)] at hJ
        obtain ⟨rfl, rfl, rfl, rfl, rfl⟩ := by simpa only [Prod.mk.injEq] using h
        exact QuoRem_w1 _ _ _ _ _ _ _ _ w hA hB _ _ hxy rfl rfl _ _ _ _ _ hQ _ _ _ hJ rfl
      · rw [if_neg h1] at h
        have m1 : -170141183460469231731687303715884105728 ≤ Int.tmod (wv a0_0 a0_1) (wv a1_0 a1_1) ∧ Int.tmod (wv a0_0 a0_1) (wv a1_0 a1_1) ≤ 170141183460469231731687303715884105727 := by
          rw [hm]; split <;> omega
        have d1 : -170141183460469231731687303715884105728 ≤ Int.tdiv (wv a0_0 a0_1) (wv a1_0 a1_1) ∧ Int.tdiv (wv a0_0 a0_1) (wv a1_0 a1_1) ≤ 170141183460469231731687303715884105727 := by
          rw [ht]
          split
          · omega
          · rename_i hs
            have hs' : decide (wv a0_0 a0_1 < 0) = decide (wv a1_0 a1_1 < 0) := by simpa using hs
            have hs2 := decide_eq_decide.1 hs'
            refine ⟨by omega, Int.le_of_lt_add_one ?_⟩
            refine Int.ediv_lt_of_lt_mul (by omega) ?_
            have e1 : wabs (wv a0_0 a0_1) = 170141183460469231731687303715884105728 → wv a0_0 a0_1 = -170141183460469231731687303715884105728 := by unfold wabs; split <;> omega
            have e2 : wv a1_0 a1_1 < 0 → wabs (wv a1_0 a1_1) = -wv a1_0 a1_1 := fun h => if_pos h
            omega
        rw [wans_in m1] at hR
        rw [wans_in d1] at hJ
        obtain ⟨rfl, rfl, rfl, rfl, rfl⟩ := by simpa only [Prod.mk.injEq] using h
        exact QuoRem_w2 _ _ _ _ _ _ _ _ w hA hB _ _ hxy rfl rfl _ _ _ _ _ hQ _ _ _ hJ rfl _ _ _ hR
  · cases h
theorem QuoRem_f {a0 a1 b0 b1 : Int} (ha : WB a0 a1) (hb : WB b0 b1) : QuoRem.f a0 a1 b0 b1 = some (qans (wv a0 a1) (wv b0 b1)) := if_pos ⟨ha, hb⟩
end Go.Proofs.Ytieeaicdpdidpaa.TF
