/- The statement LineTurns for every input: the plain facts on the functions' results, and the row. No condition. -/
import Derived.Test.YtgdnleanagclaaaGF0
import Derived.Test.YtgdnleanagclaaaGE1
import Derived.Lib.ItoaNum
import Derived.Laws.BitsAllLaws
import Derived.Test.YtgdnleanagclaaaRows
import Derived.Test.YtgdnleanagclaaaChecked
namespace Go.Proofs.Ytgdnleanagclaaa.E
open Go
def W24 (a : (Int × Int)) : Prop := (-9223372036854775808 ≤ a.1 ∧ a.1 ≤ 9223372036854775807) ∧ (0 ≤ a.2 ∧ a.2 ≤ 18446744073709551615)
def W26 (a : ((Int × Int) × ((Int × Int) × (Int × Int)))) : Prop := W24 a.1 ∧ W24 a.2.1 ∧ W24 a.2.2
def PLineTurns : Prop := ∀ (a0 : ((Int × Int) × ((Int × Int) × (Int × Int)))) (a1 : Int) (a2 : (List Int)), W26 a0 → (-9223372036854775808 ≤ a1 ∧ a1 ≤ 9223372036854775807) → (List.length a2 * Program.bytesOf Try.prog 2 ≤ 140737488351232 ∧ ∀ x ∈ a2, (-9223372036854775808 ≤ x ∧ x ≤ 9223372036854775807)) → N4 (a0, a1, a2, ()) = some (true, ())
end Go.Proofs.Ytgdnleanagclaaa.E
namespace Go.Proofs.Ytgdnleanagclaaa.E
open Go
set_option linter.unusedVariables false
theorem wAdd {a0 a1 b0 b1 : Int} (ha : WB a0 a1) (hb : WB b0 b1) : N29 ((a0, a1), (b0, b1), ()) = some (wans (wv a0 a1 + wv b0 b1)) := by
  obtain ⟨⟨p1, p2⟩, p3, p4⟩ := ha
  obtain ⟨⟨q1, q2⟩, q3, q4⟩ := hb
  unfold N29 M29
  simp only []
  rw [add64_f ⟨p3, p4⟩ ⟨q3, q4⟩ (by omega)]
  simp only [Option.bind_some, wu, ws]
  rw [add64_f (by omega) (by omega) (by omega)]
  simp only [Option.bind_some]
  unfold wans wv
  simp only [bif_not, bif_iff]
  (repeat' split) <;> first | rfl | (exfalso; omega) | (congr 3 <;> omega) | (congr 2 <;> omega)
theorem wSub {a0 a1 b0 b1 : Int} (ha : WB a0 a1) (hb : WB b0 b1) : N47 ((a0, a1), (b0, b1), ()) = some (wans (wv a0 a1 - wv b0 b1)) := by
  obtain ⟨⟨p1, p2⟩, p3, p4⟩ := ha
  obtain ⟨⟨q1, q2⟩, q3, q4⟩ := hb
  unfold N47 M47
  simp only []
  rw [sub64_f ⟨p3, p4⟩ ⟨q3, q4⟩ (by omega)]
  simp only [Option.bind_some, wu, ws]
  rw [sub64_f (by omega) (by omega) (by omega)]
  simp only [Option.bind_some]
  unfold wans wv
  simp only [bif_not, bif_iff]
  (repeat' split) <;> first | rfl | (exfalso; omega) | (congr 3 <;> omega) | (congr 2 <;> omega)
theorem wNeg {a0 a1 : Int} (ha : WB a0 a1) : N49 ((a0, a1), ()) = some (wans (-wv a0 a1)) := by
  unfold N49 M49
  simp only []
  rw [wSub WB_zero ha, show wv 0 0 - wv a0 a1 = -wv a0 a1 from by unfold wv; omega]
  rfl
theorem wOf {a : Int} (h : -9223372036854775808 ≤ a ∧ a ≤ 9223372036854775807) : N22 (a, ()) = some ((a / 18446744073709551616, a % 18446744073709551616), ()) := by
  unfold N22 M22
  simp only [wu]
  rw [fdiv_pos (by omega), show a / 9223372036854775808 = a / 18446744073709551616 from by omega]
theorem wAbs {h l : Int} (b : WB h l) : N51 ((h, l), ()) = some (wabs (wv h l) / 18446744073709551616, wabs (wv h l) % 18446744073709551616, ()) := by
  obtain ⟨⟨p1, p2⟩, p3, p4⟩ := b
  unfold N51 M51 wabs
  simp only [wu, bif_p]
  by_cases h0 : h ≥ 0
  · rw [if_pos h0, if_neg (by unfold wv; omega)]
    unfold wv
    congr 2 <;> first | omega | (congr 1; omega)
  · rw [if_neg h0, if_pos (by unfold wv; omega), sub64_f (by omega) (by omega) (by omega)]
    simp only [Option.bind_some]
    rw [sub64_f (by omega) (by omega) (by omega)]
    simp only [Option.bind_some]
    unfold wv
    congr 2 <;> first | omega | (congr 1; omega)
theorem wJoin (neg : Bool) {hi lo : Int} (h1 : 0 ≤ hi ∧ hi ≤ 18446744073709551615) (h2 : 0 ≤ lo ∧ lo ≤ 18446744073709551615) :
    N55 (neg, hi, lo, ()) = some (wans (if neg = true then -(hi * 18446744073709551616 + lo) else hi * 18446744073709551616 + lo)) := by
  unfold N55 M55
  simp only []
  rw [fdiv_pos (by omega)]
  by_cases h0 : hi / 9223372036854775808 = 0
  · rw [bif_t (by simpa using h0), wsi (by omega)]
    have b : WB hi lo := by unfold WB; omega
    cases neg with
    | true =>
      rw [bif_t rfl, if_pos rfl, wNeg b]
      rfl
    | false =>
      rw [bif_f rfl, if_neg (by simp)]
      have := wans_wv b
      unfold wv at this
      rw [this]
  · rw [bif_f (by simpa using h0)]
    cases neg with
    | true =>
      rw [bif_t rfl, if_pos rfl]
      unfold wans
      by_cases e1 : hi = 9223372036854775808
      · rw [bif_t (by simpa using e1)]
        by_cases e2 : lo = 0
        · rw [bif_t (by simpa using e2), if_pos (by omega)]
          subst e1 e2
          rfl
        · rw [bif_f (by simpa using e2), if_neg (by omega)]
      · rw [bif_f (by simpa using e1), if_neg (by omega)]
    | false =>
      rw [bif_f rfl, if_neg (by simp)]
      unfold wans
      rw [if_neg (by omega)]
end Go.Proofs.Ytgdnleanagclaaa.E
namespace Go.Proofs.Ytgdnleanagclaaa.E
open Go
set_option linter.unusedVariables false
theorem wSign {h l : Int} (b : WB h l) : N35 ((h, l), ()) = some (cmpv (wv h l) 0, ()) := by
  unfold N35 M35 cmpv
  simp only [bif_p, bif_and, bif_eq]
  unfold WB at b
  unfold wv
  (repeat' split) <;> first | rfl | (exfalso; omega)
theorem wCmp {a0 a1 b0 b1 : Int} (ha : WB a0 a1) (hb : WB b0 b1) : N34 ((a0, a1), (b0, b1), ()) = some (cmpv (wv a0 a1) (wv b0 b1), ()) := by
  obtain ⟨⟨p1, p2⟩, p3, p4⟩ := ha
  obtain ⟨⟨q1, q2⟩, q3, q4⟩ := hb
  unfold N34 M34 cmpv wv
  simp only [bif_p, bif_and, bif_eq]
  (repeat' split) <;> first | rfl | (exfalso; omega)
end Go.Proofs.Ytgdnleanagclaaa.E
namespace Go.Proofs.Ytgdnleanagclaaa.E
open Go
set_option linter.unusedVariables false
set_option maxRecDepth 100000
/-- The number of a row of digits, the lowest first. -/
def dv : List Int → Int
  | [] => 0
  | x :: r => x + 65536 * dv r
def D16 (x : Int) : Prop := 0 ≤ x ∧ x ≤ 65535
def Long (l : List Int) (V : Int) : Prop := l.length = 12 ∧ (∀ x ∈ l, D16 x) ∧ dv l = V
theorem Long.open {l : List Int} {V : Int} (h : Long l V) : ∃ d0 d1 d2 d3 d4 d5 d6 d7 d8 d9 d10 d11, l = [d0, d1, d2, d3, d4, d5, d6, d7, d8, d9, d10, d11] ∧ D16 d0 ∧ D16 d1 ∧ D16 d2 ∧ D16 d3 ∧ D16 d4 ∧ D16 d5 ∧ D16 d6 ∧ D16 d7 ∧ D16 d8 ∧ D16 d9 ∧ D16 d10 ∧ D16 d11 ∧
    V = d0 + 65536 * (d1 + 65536 * (d2 + 65536 * (d3 + 65536 * (d4 + 65536 * (d5 + 65536 * (d6 + 65536 * (d7 + 65536 * (d8 + 65536 * (d9 + 65536 * (d10 + 65536 * (d11 + 65536 * 0))))))))))) := by
  obtain ⟨h1, h2, h3⟩ := h
  match l, h1 with
  | [d0, d1, d2, d3, d4, d5, d6, d7, d8, d9, d10, d11], _ =>
    simp only [List.mem_cons, List.not_mem_nil, or_false, forall_eq_or_imp, forall_eq] at h2
    exact ⟨d0, d1, d2, d3, d4, d5, d6, d7, d8, d9, d10, d11, rfl, h2.1, h2.2.1, h2.2.2.1, h2.2.2.2.1, h2.2.2.2.2.1, h2.2.2.2.2.2.1, h2.2.2.2.2.2.2.1, h2.2.2.2.2.2.2.2.1, h2.2.2.2.2.2.2.2.2.1, h2.2.2.2.2.2.2.2.2.2.1, h2.2.2.2.2.2.2.2.2.2.2.1, h2.2.2.2.2.2.2.2.2.2.2.2, h3.symm⟩
theorem Long.in {l : List Int} {V : Int} (h : Long l V) : 0 ≤ V ∧ V ≤ 6277101735386680763835789423207666416102355444464034512895 := by
  obtain ⟨d0, d1, d2, d3, d4, d5, d6, d7, d8, d9, d10, d11, rfl, k0, k1, k2, k3, k4, k5, k6, k7, k8, k9, k10, k11, e⟩ := h.open
  unfold D16 at *
  omega
/-! ### sums -/
/-- A sum with its carry. -/
def addc : Int → List Int → List Int → List Int
  | c, x :: xs, y :: ys =>
    Int.tmod (IntKind.wrap .u64 (IntKind.wrap .u64 (c + x) + y)) 65536 :: addc (IntKind.wrap .u64 (Int.tdiv (IntKind.wrap .u64 (IntKind.wrap .u64 (c + x) + y)) 65536)) xs ys
  | _, _, _ => []
theorem addc_spec : ∀ (xs ys : List Int) (c : Int), (∀ x ∈ xs, D16 x) → (∀ y ∈ ys, D16 y) → xs.length = ys.length → 0 ≤ c ∧ c ≤ 1 → (addc c xs ys).length = xs.length ∧ (∀ z ∈ addc c xs ys, D16 z) ∧ ∃ k, 0 ≤ k ∧ k ≤ 1 ∧ dv (addc c xs ys) + 65536 ^ xs.length * k = c + dv xs + dv ys
  | [], [], c, _, _, _, hc => ⟨rfl, (fun z hz => by cases hz), c, hc.1, hc.2, by simp [addc, dv]⟩
  | x :: xs, y :: ys, c, hx, hy, hl, hc => by
    have hx0 := hx x (by simp)
    have hy0 := hy y (by simp)
    unfold D16 at hx0 hy0
    have e1 : IntKind.wrap .u64 (IntKind.wrap .u64 (c + x) + y) = c + x + y := by rw [wui (n := c + x) (by omega), wui (by omega)]
    have e2 : IntKind.wrap .u64 (Int.tdiv (c + x + y) 65536) = (c + x + y) / 65536 := by rw [tdiv_pos (by omega), wui (by omega)]
    obtain ⟨i1, i2, k, k0, k1, k2⟩ := addc_spec xs ys ((c + x + y) / 65536) (fun z hz => hx z (by simp [hz])) (fun z hz => hy z (by simp [hz])) (by simpa using hl) (by omega)
    unfold addc
    rw [e1, e2, tmod_pos (by omega)]
    refine ⟨by simp [i1], fun z hz => ?_, k, k0, k1, ?_⟩
    · rcases List.mem_cons.1 hz with rfl | hz
      · unfold D16; omega
      · exact i2 z hz
    · simp only [dv, List.length_cons, Int.pow_succ]
      generalize (65536 : Int) ^ xs.length = p at *
      have : p * 65536 * k = 65536 * (p * k) := by grind
      rw [this]
      generalize p * k = q at *
      omega
theorem rPlus {a b : List Int} {A B : Int} (ha : Long a A) (hb : Long b B) : ∃ l, N60 (a, b, ()) = some (l, ()) ∧ Long l ((A + B) % 6277101735386680763835789423207666416102355444464034512896) := by
  have hlen : a.length = 12 := ha.1
  obtain ⟨h1, h2, k, k0, k1, k2⟩ := addc_spec a b 0 ha.2.1 hb.2.1 (ha.1.trans hb.1.symm) (by omega)
  refine ⟨addc 0 a b, ?_, h1.trans ha.1, h2, ?_⟩
  · unfold N60 M60
    obtain ⟨a0, a1, a2, a3, a4, a5, a6, a7, a8, a9, a10, a11, rfl, _⟩ := ha.open
    obtain ⟨b0, b1, b2, b3, b4, b5, b6, b7, b8, b9, b10, b11, rfl, _⟩ := hb.open
    have : itrs R60_0 ([a0, a1, a2, a3, a4, a5, a6, a7, a8, a9, a10, a11], [b0, b1, b2, b3, b4, b5, b6, b7, b8, b9, b10, b11], List.replicate 12 0, 0, 0, ()) = some (addc 0 [a0, a1, a2, a3, a4, a5, a6, a7, a8, a9, a10, a11] [b0, b1, b2, b3, b4, b5, b6, b7, b8, b9, b10, b11], List.replicate 12 0, ()) := itrs_of (n := 13) (by kernel_rfl) (by omega)
    simp only [this, Option.bind_some]
  · have hv : Long (addc 0 a b) (dv (addc 0 a b)) := ⟨h1.trans ha.1, h2, rfl⟩
    have := hv.in
    rw [hlen, ha.2.2, hb.2.2, show (65536 : Int) ^ 12 = 6277101735386680763835789423207666416102355444464034512896 from by decide] at k2
    omega
/-! ### opposites -/
def turn : List Int → List Int
  | [] => []
  | x :: xs => IntKind.wrap .u64 (65535 - x) :: turn xs
theorem turn_spec : ∀ (xs : List Int), (∀ x ∈ xs, D16 x) → (turn xs).length = xs.length ∧ (∀ z ∈ turn xs, D16 z) ∧ dv (turn xs) + dv xs + 1 = 65536 ^ xs.length
  | [], _ => ⟨rfl, (fun z hz => by cases hz), by simp [turn, dv]⟩
  | x :: xs, hx => by
    have hx0 := hx x (by simp)
    unfold D16 at hx0
    obtain ⟨i1, i2, i3⟩ := turn_spec xs fun z hz => hx z (by simp [hz])
    unfold turn
    rw [wui (by omega)]
    refine ⟨by simp [i1], fun z hz => ?_, ?_⟩
    · rcases List.mem_cons.1 hz with rfl | hz
      · unfold D16; omega
      · exact i2 z hz
    · simp only [dv, List.length_cons, Int.pow_succ]
      omega
theorem Long_one : Long [1, 0, 0, 0, 0, 0, 0, 0, 0, 0, 0, 0] 1 := by
  refine ⟨rfl, ?_, rfl⟩
  simp [D16]
theorem rTurned {a : List Int} {A : Int} (ha : Long a A) : ∃ l, N63 (a, ()) = some (l, ()) ∧ Long l ((-A) % 6277101735386680763835789423207666416102355444464034512896) := by
  obtain ⟨h1, h2, h3⟩ := turn_spec a ha.2.1
  rw [ha.1, ha.2.2, show (65536 : Int) ^ 12 = 6277101735386680763835789423207666416102355444464034512896 from by decide] at h3
  obtain ⟨l, k1, k2⟩ := rPlus ⟨h1.trans ha.1, h2, rfl⟩ Long_one
  refine ⟨l, ?_, ?_⟩
  · obtain ⟨a0, a1, a2, a3, a4, a5, a6, a7, a8, a9, a10, a11, rfl, _⟩ := ha.open
    unfold N63 M63
    have : itrs R63_0 ([a0, a1, a2, a3, a4, a5, a6, a7, a8, a9, a10, a11], List.replicate 12 0, 0, ()) = some (turn [a0, a1, a2, a3, a4, a5, a6, a7, a8, a9, a10, a11], List.replicate 12 0, ()) := itrs_of (n := 13) (by kernel_rfl) (by omega)
    simp only [this, Option.bind_some, k1]
  · have hA := ha.in
    rw [show -A = dv (turn a) + 1 + (-1) * 6277101735386680763835789423207666416102355444464034512896 from by omega]
    rw [show (dv (turn a) + 1 + (-1) * 6277101735386680763835789423207666416102355444464034512896) % 6277101735386680763835789423207666416102355444464034512896 = (dv (turn a) + 1) % 6277101735386680763835789423207666416102355444464034512896 from by omega]
    exact k2
/-! ### a number's digits -/
/-- A number of twelve digits for any number. -/
def long (v : Int) : Int := v % 6277101735386680763835789423207666416102355444464034512896
theorem sh_eq {x : Int} {n : Nat} {m : Int} (h : (2 : Int) ^ n = m) (hm : 0 ≤ m) : Int.fdiv x (2 ^ n) = x / m := by rw [h, fdiv_pos hm]
theorem sh_0 (x : Int) : Int.fdiv x (2 ^ 0) = x / 1 := sh_eq (by decide) (by omega)
theorem sh_16 (x : Int) : Int.fdiv x (2 ^ 16) = x / 65536 := sh_eq (by decide) (by omega)
theorem sh_32 (x : Int) : Int.fdiv x (2 ^ 32) = x / 4294967296 := sh_eq (by decide) (by omega)
theorem sh_48 (x : Int) : Int.fdiv x (2 ^ 48) = x / 281474976710656 := sh_eq (by decide) (by omega)
theorem rDigits {h l : Int} (b : WB h l) : ∃ d, N61 ((h, l), ()) = some (d, ()) ∧ Long d (long (wv h l)) := by
  have L1 : itrs R61_0 ((h, l, ()), List.replicate 12 0, List.replicate 12 0, 0, ()) = some ((h, l, ()), List.replicate 12 0, [Int.tmod (Int.fdiv l (2 ^ 0)) 65536, Int.tmod (Int.fdiv l (2 ^ 16)) 65536, Int.tmod (Int.fdiv l (2 ^ 32)) 65536, Int.tmod (Int.fdiv l (2 ^ 48)) 65536, Int.tmod (Int.fdiv (IntKind.wrap .u64 h) (2 ^ 0)) 65536, Int.tmod (Int.fdiv (IntKind.wrap .u64 h) (2 ^ 16)) 65536, Int.tmod (Int.fdiv (IntKind.wrap .u64 h) (2 ^ 32)) 65536, Int.tmod (Int.fdiv (IntKind.wrap .u64 h) (2 ^ 48)) 65536, 0, 0, 0, 0], ()) := itrs_of (n := 5) (by kernel_rfl) (by omega)
  obtain ⟨⟨p1, p2⟩, p3, p4⟩ := b
  have hw : 0 ≤ IntKind.wrap .u64 h ∧ IntKind.wrap .u64 h ≤ 18446744073709551615 := by rw [wu]; omega
  have hh := wu h
  unfold N61 M61
  simp only [L1, Option.bind_some]
  generalize IntKind.wrap .u64 h = u at *
  rw [sh_0, sh_16, sh_32, sh_48, sh_0, sh_16, sh_32, sh_48]
  rw [tmod_pos (by omega), tmod_pos (by omega), tmod_pos (by omega), tmod_pos (by omega), tmod_pos (by omega), tmod_pos (by omega), tmod_pos (by omega), tmod_pos (by omega)]
  by_cases hn : h < 0
  · rw [bif_t (decide_eq_true hn)]
    have L2 : ∀ t d0 d1 d2 d3 d4 d5 d6 d7, itrs R61_2 (t, [d0, d1, d2, d3, d4, d5, d6, d7, 0, 0, 0, 0], 8, ()) = some (t, [d0, d1, d2, d3, d4, d5, d6, d7, 65535, 65535, 65535, 65535], ()) := fun t d0 d1 d2 d3 d4 d5 d6 d7 => itrs_of (n := 5) (by kernel_rfl) (by omega)
    rw [L2]
    refine ⟨_, rfl, rfl, ?_, ?_⟩
    · simp only [List.mem_cons, List.not_mem_nil, or_false, forall_eq_or_imp, forall_eq, D16]
      omega
    · simp only [dv, long, wv]
      omega
  · rw [bif_f (decide_eq_false hn)]
    refine ⟨_, rfl, rfl, ?_, ?_⟩
    · simp only [List.mem_cons, List.not_mem_nil, or_false, forall_eq_or_imp, forall_eq, D16]
      omega
    · simp only [dv, long, wv]
      omega
theorem horner {d0 d1 d2 d3 : Int} (h0 : D16 d0) (h1 : D16 d1) (h2 : D16 d2) (h3 : D16 d3) :
    IntKind.wrap .u64 (IntKind.wrap .u64 (IntKind.wrap .u64 (IntKind.wrap .u64 (IntKind.wrap .u64 (IntKind.wrap .u64 (IntKind.wrap .u64 (IntKind.wrap .u64 (0 * 65536) + d3) * 65536) + d2) * 65536) + d1) * 65536) + d0) = d0 + 65536 * (d1 + 65536 * (d2 + 65536 * d3)) := by
  unfold D16 at *
  rw [wui (n := 0 * 65536) (by omega), wui (n := 0 * 65536 + d3) (by omega), wui (n := (0 * 65536 + d3) * 65536) (by omega), wui (n := (0 * 65536 + d3) * 65536 + d2) (by omega), wui (n := ((0 * 65536 + d3) * 65536 + d2) * 65536) (by omega), wui (n := ((0 * 65536 + d3) * 65536 + d2) * 65536 + d1) (by omega), wui (n := (((0 * 65536 + d3) * 65536 + d2) * 65536 + d1) * 65536) (by omega), wui (by omega)]
  omega
theorem rAbs {h l : Int} (b : WB h l) : N57 ((h, l), ()) = some (wabs (wv h l) / 18446744073709551616, wabs (wv h l) % 18446744073709551616, ()) := by
  have hv := wv_in b
  obtain ⟨d, k1, k2⟩ := rDigits b
  unfold N57 M57
  simp only [k1, Option.bind_some]
  have read : ∀ (d : List Int) (V : Int), Long d V → V ≤ 170141183460469231731687303715884105728 → ((itrs R57_0 (d, 0, 0, 3, ())).bind fun ⟨y4_0, ⟨y4_1, ()⟩⟩ => (some (y4_0, (y4_1, ())))) = some (V / 18446744073709551616, V % 18446744073709551616, ()) := by
    intro d V hd hV
    obtain ⟨d0, d1, d2, d3, d4, d5, d6, d7, d8, d9, d10, d11, rfl, g0, g1, g2, g3, g4, g5, g6, g7, g8, g9, g10, g11, e⟩ := hd.open
    have L : itrs R57_0 ([d0, d1, d2, d3, d4, d5, d6, d7, d8, d9, d10, d11], 0, 0, 3, ()) = some (IntKind.wrap .u64 (IntKind.wrap .u64 (IntKind.wrap .u64 (IntKind.wrap .u64 (IntKind.wrap .u64 (IntKind.wrap .u64 (IntKind.wrap .u64 (IntKind.wrap .u64 (0 * 65536) + d7) * 65536) + d6) * 65536) + d5) * 65536) + d4), IntKind.wrap .u64 (IntKind.wrap .u64 (IntKind.wrap .u64 (IntKind.wrap .u64 (IntKind.wrap .u64 (IntKind.wrap .u64 (IntKind.wrap .u64 (IntKind.wrap .u64 (0 * 65536) + d3) * 65536) + d2) * 65536) + d1) * 65536) + d0), ()) := itrs_of (n := 5) (by kernel_rfl) (by omega)
    rw [L, horner g0 g1 g2 g3, horner g4 g5 g6 g7]
    unfold D16 at *
    simp only [Option.bind_some]
    congr 2
    · omega
    · congr 1; omega
  have below : N64 (d, ()) = some (decide (wv h l < 0), ()) := by
    obtain ⟨d0, d1, d2, d3, d4, d5, d6, d7, d8, d9, d10, d11, rfl, g0, g1, g2, g3, g4, g5, g6, g7, g8, g9, g10, g11, e⟩ := k2.open
    show some (decide (d11 ≥ 32768), ()) = _
    unfold D16 at *
    unfold long at e
    congr 2
    rw [decide_eq_decide]
    omega
  rw [below]
  simp only [Option.bind_some, bif_p]
  by_cases hn : wv h l < 0
  · obtain ⟨d', j1, j2⟩ := rTurned k2
    rw [if_pos hn, j1]
    simp only [Option.bind_some]
    have := read d' _ j2 (by unfold long; omega)
    rw [show wabs (wv h l) = (-(long (wv h l))) % 6277101735386680763835789423207666416102355444464034512896 from by unfold wabs long; rw [if_pos hn]; omega]
    exact this
  · rw [if_neg hn]
    have := read d _ k2 (by unfold long; omega)
    rw [show wabs (wv h l) = long (wv h l) from by unfold wabs long; rw [if_neg hn]; omega]
    exact this
end Go.Proofs.Ytgdnleanagclaaa.E
namespace Go.Proofs.Ytgdnleanagclaaa.E
open Go
set_option linter.unusedVariables false
set_option maxRecDepth 100000
theorem long_in (v : Int) : 0 ≤ long v ∧ long v ≤ 6277101735386680763835789423207666416102355444464034512895 := by unfold long; omega
theorem rWide {l : List Int} {v : Int} (hv : -3138550867693340381917894711603833208051177722232017256448 ≤ v ∧ v < 3138550867693340381917894711603833208051177722232017256448) (h : Long l (long v)) : N67 (l, ()) = some (if inR v then ((v / 18446744073709551616, v % 18446744073709551616), true, ()) else ((0, 0), false, ())) := by
  obtain ⟨d0, d1, d2, d3, d4, d5, d6, d7, d8, d9, d10, d11, rfl, g0, g1, g2, g3, g4, g5, g6, g7, g8, g9, g10, g11, e⟩ := h.open
  unfold long at e
  have L2 : ∀ z, itrs R67_2 ([d0, d1, d2, d3, d4, d5, d6, d7, d8, d9, d10, d11], z, 0, 0, 3, ()) = some (z, IntKind.wrap .u64 (IntKind.wrap .u64 (IntKind.wrap .u64 (IntKind.wrap .u64 (IntKind.wrap .u64 (IntKind.wrap .u64 (IntKind.wrap .u64 (IntKind.wrap .u64 (0 * 65536) + d3) * 65536) + d2) * 65536) + d1) * 65536) + d0), IntKind.wrap .u64 (IntKind.wrap .u64 (IntKind.wrap .u64 (IntKind.wrap .u64 (IntKind.wrap .u64 (IntKind.wrap .u64 (IntKind.wrap .u64 (IntKind.wrap .u64 (0 * 65536) + d7) * 65536) + d6) * 65536) + d5) * 65536) + d4), ()) := fun ⟨z0, z1, ()⟩ => itrs_of (n := 5) (by kernel_rfl) (by omega)
  have L0 : ∀ z top, itrs R67_0 ([d0, d1, d2, d3, d4, d5, d6, d7, d8, d9, d10, d11], z, top, 8, ()) = bif d8 != top then some (.inr ((0, 0, ()), false, ())) else bif d9 != top then some (.inr ((0, 0, ()), false, ())) else bif d10 != top then some (.inr ((0, 0, ()), false, ())) else bif d11 != top then some (.inr ((0, 0, ()), false, ())) else some (.inl ([d0, d1, d2, d3, d4, d5, d6, d7, d8, d9, d10, d11], z, ())) := by
    intro ⟨z0, z1, ()⟩ top
    have s8 : R67_0 ([d0, d1, d2, d3, d4, d5, d6, d7, d8, d9, d10, d11], (z0, z1, ()), top, 8, ()) = bif d8 != top then some (.inr (.inr ((0, 0, ()), false, ()))) else some (.inl ([d0, d1, d2, d3, d4, d5, d6, d7, d8, d9, d10, d11], (z0, z1, ()), top, 9, ())) := by kernel_rfl
    have s9 : R67_0 ([d0, d1, d2, d3, d4, d5, d6, d7, d8, d9, d10, d11], (z0, z1, ()), top, 9, ()) = bif d9 != top then some (.inr (.inr ((0, 0, ()), false, ()))) else some (.inl ([d0, d1, d2, d3, d4, d5, d6, d7, d8, d9, d10, d11], (z0, z1, ()), top, 10, ())) := by kernel_rfl
    have s10 : R67_0 ([d0, d1, d2, d3, d4, d5, d6, d7, d8, d9, d10, d11], (z0, z1, ()), top, 10, ()) = bif d10 != top then some (.inr (.inr ((0, 0, ()), false, ()))) else some (.inl ([d0, d1, d2, d3, d4, d5, d6, d7, d8, d9, d10, d11], (z0, z1, ()), top, 11, ())) := by kernel_rfl
    have s11 : R67_0 ([d0, d1, d2, d3, d4, d5, d6, d7, d8, d9, d10, d11], (z0, z1, ()), top, 11, ()) = bif d11 != top then some (.inr (.inr ((0, 0, ()), false, ()))) else some (.inl ([d0, d1, d2, d3, d4, d5, d6, d7, d8, d9, d10, d11], (z0, z1, ()), top, 12, ())) := by kernel_rfl
    have s12 : R67_0 ([d0, d1, d2, d3, d4, d5, d6, d7, d8, d9, d10, d11], (z0, z1, ()), top, 12, ()) = some (.inr (.inl ([d0, d1, d2, d3, d4, d5, d6, d7, d8, d9, d10, d11], (z0, z1, ()), ()))) := by kernel_rfl
    refine itrs_eq (n := 5) ?_ (by cases d8 != top <;> cases d9 != top <;> cases d10 != top <;> cases d11 != top <;> rfl) (by omega)
    rw [itr_bif s8, itr_bif s9, itr_bif s10, itr_bif s11, itr_out s12]
  unfold N67 M67
  simp only []
  rw [show [d0, d1, d2, d3, d4, d5, d6, d7, d8, d9, d10, d11][7]? = some d7 from rfl]
  simp only [Option.bind_some, bif_p]
  unfold D16 at *
  have fin : ∀ top : Int, ((bif d8 != top then some (.inr ((0, 0, ()), false, ())) else bif d9 != top then some (.inr ((0, 0, ()), false, ())) else bif d10 != top then some (.inr ((0, 0, ()), false, ())) else bif d11 != top then some (.inr ((0, 0, ()), false, ())) else some (.inl ([d0, d1, d2, d3, d4, d5, d6, d7, d8, d9, d10, d11], (0, 0, ()), ()))) : Option LB67_0) =
      if d8 = top ∧ d9 = top ∧ d10 = top ∧ d11 = top then some (.inl ([d0, d1, d2, d3, d4, d5, d6, d7, d8, d9, d10, d11], (0, 0, ()), ())) else some (.inr ((0, 0, ()), false, ())) := by
    intro top
    simp only [bif_ne]
    (repeat' split) <;> first | rfl | (exfalso; simp_all; done) | (exfalso; omega)
  have H0 := horner g0 g1 g2 g3
  have H1 := horner g4 g5 g6 g7
  by_cases h7 : d7 ≥ 32768
  · rw [if_pos h7, L0, fin]
    by_cases ht : d8 = 65535 ∧ d9 = 65535 ∧ d10 = 65535 ∧ d11 = 65535
    · rw [if_pos ht]
      simp only [Option.bind_some]
      rw [L2]
      simp only [Option.bind_some]
      rw [H0, H1, if_pos (by unfold inR; omega), ws]
      congr 2
      congr 1 <;> omega
    · rw [if_neg ht, if_neg (by unfold inR; omega)]
      rfl
  · rw [if_neg h7, L0, fin]
    by_cases ht : d8 = 0 ∧ d9 = 0 ∧ d10 = 0 ∧ d11 = 0
    · rw [if_pos ht]
      simp only [Option.bind_some]
      rw [L2]
      simp only [Option.bind_some]
      rw [H0, H1, if_pos (by unfold inR; omega), ws]
      congr 2
      congr 1 <;> omega
    · rw [if_neg ht, if_neg (by unfold inR; omega)]
      rfl
theorem rtold {l : List Int} {v : Int} (hv : -3138550867693340381917894711603833208051177722232017256448 ≤ v ∧ v < 3138550867693340381917894711603833208051177722232017256448) (h : Long l (long v)) : N59 (l, ()) = some (wans v) := by
  unfold N59 M59
  simp only [rWide hv h]
  by_cases hr : inR v
  · rw [if_pos hr, wans_in hr]
    rfl
  · rw [if_neg hr, wans_out hr]
    rfl
theorem Long_eq {l : List Int} {V V' : Int} (h : Long l V) (e : V = V') : Long l V' := e ▸ h
theorem rOf {a : Int} (h : -9223372036854775808 ≤ a ∧ a ≤ 9223372036854775807) : N31 (a, ()) = some ((a / 18446744073709551616, a % 18446744073709551616), ()) := by
  unfold N31 M31
  simp only [bif_p, wu]
  by_cases hn : a < 0
  · rw [if_pos hn, show a / 18446744073709551616 = -1 from by omega]
  · rw [if_neg hn, show a / 18446744073709551616 = 0 from by omega]
theorem rJoin (neg : Bool) {hi lo : Int} (h1 : 0 ≤ hi ∧ hi ≤ 18446744073709551615) (h2 : 0 ≤ lo ∧ lo ≤ 18446744073709551615) :
    N58 (neg, hi, lo, ()) = some (wans (if neg = true then -(hi * 18446744073709551616 + lo) else hi * 18446744073709551616 + lo)) := by
  have L0 : ∀ z, itrs R58_0 (neg, hi, lo, z, List.replicate 12 0, 0, ()) = some (neg, z, [Int.tmod (Int.fdiv lo (2 ^ 0)) 65536, Int.tmod (Int.fdiv lo (2 ^ 16)) 65536, Int.tmod (Int.fdiv lo (2 ^ 32)) 65536, Int.tmod (Int.fdiv lo (2 ^ 48)) 65536, Int.tmod (Int.fdiv hi (2 ^ 0)) 65536, Int.tmod (Int.fdiv hi (2 ^ 16)) 65536, Int.tmod (Int.fdiv hi (2 ^ 32)) 65536, Int.tmod (Int.fdiv hi (2 ^ 48)) 65536, 0, 0, 0, 0], ()) := fun ⟨z0, z1, ()⟩ => itrs_of (n := 5) (by kernel_rfl) (by omega)
  unfold N58 M58
  simp only [L0, Option.bind_some]
  rw [sh_0, sh_16, sh_32, sh_48, sh_0, sh_16, sh_32, sh_48]
  rw [tmod_pos (by omega), tmod_pos (by omega), tmod_pos (by omega), tmod_pos (by omega), tmod_pos (by omega), tmod_pos (by omega), tmod_pos (by omega), tmod_pos (by omega)]
  have hL : Long [lo / 1 % 65536, lo / 65536 % 65536, lo / 4294967296 % 65536, lo / 281474976710656 % 65536, hi / 1 % 65536, hi / 65536 % 65536, hi / 4294967296 % 65536, hi / 281474976710656 % 65536, 0, 0, 0, 0] (long (hi * 18446744073709551616 + lo)) := by
    refine ⟨rfl, ?_, ?_⟩
    · simp only [List.mem_cons, List.not_mem_nil, or_false, forall_eq_or_imp, forall_eq, D16]
      omega
    · simp only [dv, long]
      omega
  cases neg with
  | true =>
    obtain ⟨l, k1, k2⟩ := rTurned hL
    rw [bif_t rfl, k1]
    simp only [Option.bind_some]
    rw [rtold (v := -(hi * 18446744073709551616 + lo)) (by omega) (Long_eq k2 (by unfold long; omega))]
    rfl
  | false =>
    rw [bif_f rfl, rtold (by omega) hL]
    rfl
theorem rAdd {a0 a1 b0 b1 : Int} (ha : WB a0 a1) (hb : WB b0 b1) : N33 ((a0, a1), (b0, b1), ()) = some (wans (wv a0 a1 + wv b0 b1)) := by
  obtain ⟨l, k1, k2⟩ := rDigits ha
  obtain ⟨m, j1, j2⟩ := rDigits hb
  obtain ⟨n, i1, i2⟩ := rPlus k2 j2
  have h1 := wv_in ha
  have h2 := wv_in hb
  unfold N33 M33
  simp only [k1, j1, i1, Option.bind_some]
  rw [rtold (v := wv a0 a1 + wv b0 b1) (by omega) (Long_eq i2 (by unfold long; omega))]
  rfl
theorem rSub {a0 a1 b0 b1 : Int} (ha : WB a0 a1) (hb : WB b0 b1) : N48 ((a0, a1), (b0, b1), ()) = some (wans (wv a0 a1 - wv b0 b1)) := by
  obtain ⟨l, k1, k2⟩ := rDigits ha
  obtain ⟨m, j1, j2⟩ := rDigits hb
  obtain ⟨m', t1, t2⟩ := rTurned j2
  obtain ⟨n, i1, i2⟩ := rPlus k2 t2
  have h1 := wv_in ha
  have h2 := wv_in hb
  unfold N48 M48
  simp only [k1, j1, t1, i1, Option.bind_some]
  rw [rtold (v := wv a0 a1 - wv b0 b1) (by omega) (Long_eq i2 (by unfold long; omega))]
  rfl
end Go.Proofs.Ytgdnleanagclaaa.E
namespace Go.Proofs.Ytgdnleanagclaaa.E
open Go
set_option linter.unusedVariables false
theorem and_low {z : Int} (h : 0 ≤ z ∧ z ≤ 18446744073709551615) : IntKind.wrap .u64 ↑(BitVec.toNat (BitVec.ofInt 64 z &&& BitVec.ofInt 64 4294967295)) = z % 4294967296 := and_low32 z h.1 (by omega)
theorem ofInt_toNat {x : Int} (h : 0 ≤ x ∧ x ≤ 18446744073709551615) : ((BitVec.ofInt 64 x).toNat : Int) = x := by
  rw [BitVec.toNat_ofInt]
  have : x % ((2 ^ 64 : Nat) : Int) = x := Int.emod_eq_of_lt h.1 (by omega)
  rw [this]
  omega
theorem or_zero_r {x : Int} (h : 0 ≤ x ∧ x ≤ 18446744073709551615) : IntKind.wrap .u64 ↑(BitVec.toNat (BitVec.ofInt 64 x ||| BitVec.ofInt 64 0)) = x := by
  rw [show BitVec.ofInt 64 0 = 0#64 from rfl, BitVec.or_zero, ofInt_toNat h, wui h]
theorem or_zero_l {x : Int} (h : 0 ≤ x ∧ x ≤ 18446744073709551615) : IntKind.wrap .u64 ↑(BitVec.toNat (BitVec.ofInt 64 0 ||| BitVec.ofInt 64 x)) = x := by
  rw [show BitVec.ofInt 64 0 = 0#64 from rfl, BitVec.zero_or, ofInt_toNat h, wui h]
theorem wMul64 {x y : Int} (hx : 0 ≤ x ∧ x ≤ 18446744073709551615) (hy : 0 ≤ y ∧ y ≤ 18446744073709551615) :
    N52 (x, y, ()) = some (x * y / 18446744073709551616, x * y % 18446744073709551616, ()) := by
  have h := mul64_arith x y hx.1 (by omega) hy.1 (by omega)
  unfold N52 M52
  simp only [fdiv_pos (show (0 : Int) ≤ 4294967296 by omega)]
  rw [and_low hx, and_low hy]
  simp only [wu]
  rw [← wu (↑(BitVec.toNat _)), and_low (by omega), h]
theorem mul_words {x y : Int} (hx : 0 ≤ x ∧ x ≤ 18446744073709551615) (hy : 0 ≤ y ∧ y ≤ 18446744073709551615) : 0 ≤ x * y ∧ x * y ≤ 340282366920938463426481119284349108225 := by
  refine ⟨Int.mul_nonneg hx.1 hy.1, ?_⟩
  have := Int.mul_le_mul hx.2 hy.2 hy.1 (by omega : (0 : Int) ≤ 18446744073709551615)
  simpa using this
theorem wabs_mul (a b : Int) : wabs (a * b) = wabs a * wabs b := by
  unfold wabs
  by_cases ha : a < 0 <;> by_cases hb : b < 0
  · have := Int.mul_pos_of_neg_of_neg ha hb
    rw [if_neg (by omega), if_pos ha, if_pos hb, Int.neg_mul_neg]
  · have : a * b ≤ 0 := Int.mul_nonpos_of_nonpos_of_nonneg (by omega) (by omega)
    rw [if_pos ha, if_neg hb, Int.neg_mul]
    split <;> omega
  · have : a * b ≤ 0 := Int.mul_nonpos_of_nonneg_of_nonpos (by omega) (by omega)
    rw [if_neg ha, if_pos hb, Int.mul_neg]
    split <;> omega
  · have := Int.mul_nonneg (show 0 ≤ a by omega) (show 0 ≤ b by omega)
    rw [if_neg (by omega), if_neg ha, if_neg hb]
/-- A number out of its sign and its magnitude. -/
theorem sign_mul {a b : Int} {p q : Bool} (hp : p = true ↔ a < 0) (hq : q = true ↔ b < 0) : (if (!(p == q)) = true then -(wabs a * wabs b) else wabs a * wabs b) = a * b := by
  unfold wabs
  cases p <;> cases q <;> simp at hp hq
  · rw [if_neg (show ¬ a < 0 by omega), if_neg (show ¬ b < 0 by omega)]; simp
  · rw [if_neg (show ¬ a < 0 by omega), if_pos (show b < 0 by omega)]; simp <;> grind
  · rw [if_pos (show a < 0 by omega), if_neg (show ¬ b < 0 by omega)]; simp <;> grind
  · rw [if_pos (show a < 0 by omega), if_pos (show b < 0 by omega)]; simp <;> grind
/-- Where the magnitude is past every number, there is none. -/
theorem wans_past {v : Int} (h : 340282366920938463463374607431768211456 ≤ wabs v) : wans v = ((0, 0), 10, ()) := by
  refine wans_out ?_
  unfold wabs at h
  split at h <;> omega
/-- What is left of the product once its upper parts are settled. -/
theorem mul_rest {A1 A0 B1 B0 c : Int} (hA1 : 0 ≤ A1 ∧ A1 ≤ 9223372036854775808) (hA0 : 0 ≤ A0 ∧ A0 ≤ 18446744073709551615) (hB1 : 0 ≤ B1 ∧ B1 ≤ 9223372036854775808) (hB0 : 0 ≤ B0 ∧ B0 ≤ 18446744073709551615) (h0 : A1 = 0 ∨ B1 = 0)
    (hc : c = A1 * B0 + B1 * A0) : (A1 * 18446744073709551616 + A0) * (B1 * 18446744073709551616 + B0) = c * 18446744073709551616 + A0 * B0 := by
  subst hc
  rcases h0 with rfl | rfl
  · grind
  · grind
theorem wMul {a0 a1 b0 b1 : Int} (ha : WB a0 a1) (hb : WB b0 b1) : N27 ((a0, a1), (b0, b1), ()) = some (wans (wv a0 a1 * wv b0 b1)) := by
  have hs := sign_mul (a := wv a0 a1) (b := wv b0 b1) (p := decide (a0 < 0)) (q := decide (b0 < 0)) (by unfold WB at ha; unfold wv; simp; omega) (by unfold WB at hb; unfold wv; simp; omega)
  have hm := wabs_mul (wv a0 a1) (wv b0 b1)
  have hA := wabs_in ha
  have hB := wabs_in hb
  have eA := Int.emod_add_mul_ediv (wabs (wv a0 a1)) 18446744073709551616
  have eB := Int.emod_add_mul_ediv (wabs (wv b0 b1)) 18446744073709551616
  unfold N27 M27
  simp only []
  rw [wAbs ha]
  simp only [Option.bind_some]
  rw [wAbs hb]
  simp only [Option.bind_some]
  have hA1 : 0 ≤ wabs (wv a0 a1) / 18446744073709551616 ∧ wabs (wv a0 a1) / 18446744073709551616 ≤ 9223372036854775808 := by omega
  have hA0 : 0 ≤ wabs (wv a0 a1) % 18446744073709551616 ∧ wabs (wv a0 a1) % 18446744073709551616 ≤ 18446744073709551615 := by omega
  have hB1 : 0 ≤ wabs (wv b0 b1) / 18446744073709551616 ∧ wabs (wv b0 b1) / 18446744073709551616 ≤ 9223372036854775808 := by omega
  have hB0 : 0 ≤ wabs (wv b0 b1) % 18446744073709551616 ∧ wabs (wv b0 b1) % 18446744073709551616 ≤ 18446744073709551615 := by omega
  generalize wabs (wv a0 a1) / 18446744073709551616 = A1 at *
  generalize wabs (wv a0 a1) % 18446744073709551616 = A0 at *
  generalize wabs (wv b0 b1) / 18446744073709551616 = B1 at *
  generalize wabs (wv b0 b1) % 18446744073709551616 = B0 at *
  rw [← eA, ← eB] at hm hs
  generalize wv a0 a1 * wv b0 b1 = v at *
  -- the rest, behind the test
  have rest : (A1 = 0 ∨ B1 = 0) → ((N52 (A0, B0, ())).bind fun ⟨y3_0, ⟨y3_1, ()⟩⟩ => ((N53 (A1 != 0, B0, A0, ())).bind fun ⟨y4, ()⟩ => (let v0 : Int := ↑(BitVec.toNat (BitVec.ofInt 64 A1 ||| BitVec.ofInt 64 B1)); let v1 : Int := IntKind.wrap IntKind.u64 v0; (N52 (v1, y4, ())).bind fun ⟨y5_0, ⟨y5_1, ()⟩⟩ => (Option.bind (α := Int × Int × Unit) ((cAdd64 (τ := τ)).f (y3_0, y5_1, 0, ())) fun ⟨y6_0, ⟨y6_1, ()⟩⟩ => (bif y5_0 != 0 then (some ((0, 0), (10, ()))) else (bif y6_1 != 0 then (some ((0, 0), (10, ()))) else ((N55 (!decide (a0 < 0) == decide (b0 < 0), y6_0, y3_1, ())).bind fun ⟨⟨y9_0, y9_1⟩, ⟨y9_2, ()⟩⟩ => (some ((y9_0, y9_1), (y9_2, ())))))))))) = some (wans v) := by
    intro h0
    have hp := mul_words hA0 hB0
    rw [wMul64 hA0 hB0]
    simp only [Option.bind_some]
    obtain ⟨p, c, hpk, hw, hc, hpw⟩ : ∃ p c, N53 (A1 != 0, B0, A0, ()) = some (p, ()) ∧ IntKind.wrap .u64 ↑(BitVec.toNat (BitVec.ofInt 64 A1 ||| BitVec.ofInt 64 B1)) = c ∧ c * p = A1 * B0 + B1 * A0 ∧ (0 ≤ c ∧ c ≤ 18446744073709551615) ∧ (0 ≤ p ∧ p ≤ 18446744073709551615) := by
      rcases h0 with rfl | rfl
      · exact ⟨A0, B1, rfl, or_zero_l (by omega), by grind, by omega, by omega⟩
      · by_cases h : A1 = 0
        · subst h
          exact ⟨A0, 0, rfl, or_zero_l (by omega), by grind, by omega, by omega⟩
        · refine ⟨B0, A1, ?_, or_zero_r (by omega), by grind, by omega, by omega⟩
          have : (A1 != 0) = true := by simpa using h
          rw [this]
          rfl
    rw [hpk]
    simp only [Option.bind_some, hw]
    rw [wMul64 hpw.1 hpw.2]
    simp only [Option.bind_some]
    have hr := mul_rest hA1 hA0 hB1 hB0 h0 rfl
    rw [show A1 * 18446744073709551616 + A0 = A0 + 18446744073709551616 * A1 from by omega, show B1 * 18446744073709551616 + B0 = B0 + 18446744073709551616 * B1 from by omega] at hr
    rw [← hc] at hr
    rw [hr] at hm hs
    have hcp := mul_words hpw.1 hpw.2
    generalize c * p = C at *
    generalize A0 * B0 = D at *
    rw [add64_f (by omega) (by omega) (by omega)]
    simp only [Option.bind_some, bif_ne]
    by_cases h1 : C / 18446744073709551616 = 0
    · rw [if_pos h1]
      by_cases h2 : (D / 18446744073709551616 + C % 18446744073709551616 + 0) / 18446744073709551616 = 0
      · rw [if_pos h2, wJoin _ (by omega) (by omega)]
        rw [show (D / 18446744073709551616 + C % 18446744073709551616 + 0) % 18446744073709551616 * 18446744073709551616 + D % 18446744073709551616 = C * 18446744073709551616 + D from by omega, hs]
        rfl
      · rw [if_neg h2, wans_past (by omega)]
    · rw [if_neg h1, wans_past (by omega)]
  by_cases h1 : A1 = 0
  · rw [bif_ne, if_pos h1]
    exact rest (.inl h1)
  · rw [bif_ne, if_neg h1]
    by_cases h2 : B1 = 0
    · rw [bif_ne, if_pos h2]
      exact rest (.inr h2)
    · rw [bif_ne, if_neg h2]
      have h3 : 340282366920938463463374607431768211456 ≤ (A0 + 18446744073709551616 * A1) * (B0 + 18446744073709551616 * B1) := by
        have := Int.mul_le_mul (show 18446744073709551616 ≤ A0 + 18446744073709551616 * A1 by omega) (show 18446744073709551616 ≤ B0 + 18446744073709551616 * B1 by omega) (by omega) (by omega)
        omega
      rw [wans_past (by omega)]
end Go.Proofs.Ytgdnleanagclaaa.E
namespace Go.Proofs.Ytgdnleanagclaaa.E
open Go
set_option linter.unusedVariables false
set_option maxRecDepth 100000
theorem get_mid {α : Type} {pre r : List α} {x : α} {n : Nat} (h : pre.length = n) : (pre ++ x :: r)[n]? = some x := by subst h; simp
theorem set_mid {α : Type} {pre r : List α} {x y : α} {n : Nat} (h : pre.length = n) : (pre ++ x :: r).set n y = pre ++ y :: r := by subst h; simp
theorem dv_app (a b : List Int) : dv (a ++ b) = dv a + 65536 ^ a.length * dv b := by
  induction a with
  | nil => simp [dv]
  | cons x a ih =>
    simp only [List.cons_append, dv, List.length_cons, Int.pow_succ, ih]
    generalize (65536 : Int) ^ a.length = p
    generalize dv b = q
    rw [Int.mul_add, show p * 65536 * q = 65536 * (p * q) from by grind]
    omega
/-- One digit times a row of digits, added to a row. -/
def madd : Int → Int → List Int → List Int → List Int × Int
  | c, x, p :: ps, y :: ys =>
    let v := IntKind.wrap .u64 (IntKind.wrap .u64 (c + p) + IntKind.wrap .u64 (x * y))
    let r := madd (IntKind.wrap .u64 (Int.tdiv v 65536)) x ps ys
    (Int.tmod v 65536 :: r.1, r.2)
  | c, _, _, _ => ([], c)
theorem digit_mul {x y : Int} (hx : D16 x) (hy : D16 y) : 0 ≤ x * y ∧ x * y ≤ 4294836225 := by
  unfold D16 at *
  refine ⟨Int.mul_nonneg hx.1 hy.1, ?_⟩
  have := Int.mul_le_mul hx.2 hy.2 hy.1 (by omega : (0 : Int) ≤ 65535)
  simpa using this
theorem madd_spec : ∀ (ps ys : List Int) (c x : Int), (∀ p ∈ ps, D16 p) → (∀ y ∈ ys, D16 y) → D16 x → ps.length = ys.length → D16 c →
    (madd c x ps ys).1.length = ps.length ∧ (∀ z ∈ (madd c x ps ys).1, D16 z) ∧ D16 (madd c x ps ys).2 ∧ dv (madd c x ps ys).1 + 65536 ^ ps.length * (madd c x ps ys).2 = c + dv ps + x * dv ys
  | [], [], c, x, _, _, _, _, hc => ⟨rfl, (fun z hz => by cases hz), hc, by simp [madd, dv]⟩
  | p :: ps, y :: ys, c, x, hp, hy, hx, hl, hc => by
    have hp0 := hp p (by simp)
    have hy0 := hy y (by simp)
    have hm := digit_mul hx hy0
    have e1 : IntKind.wrap .u64 (IntKind.wrap .u64 (c + p) + IntKind.wrap .u64 (x * y)) = c + p + x * y := by
      unfold D16 at *
      rw [wui (n := c + p) (by omega), wui (n := x * y) (by omega), wui (by omega)]
    have e2 : IntKind.wrap .u64 (Int.tdiv (c + p + x * y) 65536) = (c + p + x * y) / 65536 := by
      unfold D16 at *
      rw [tdiv_pos (by omega), wui (by omega)]
    obtain ⟨i1, i2, i3, i4⟩ := madd_spec ps ys ((c + p + x * y) / 65536) x (fun z hz => hp z (by simp [hz])) (fun z hz => hy z (by simp [hz])) hx (by simpa using hl) (by unfold D16 at *; omega)
    unfold madd
    simp only [e1, e2]
    rw [tmod_pos (by unfold D16 at *; omega)]
    refine ⟨by simp [i1], fun z hz => ?_, i3, ?_⟩
    · rcases List.mem_cons.1 hz with rfl | hz
      · unfold D16; omega
      · exact i2 z hz
    · simp only [dv, List.length_cons, Int.pow_succ]
      rw [Int.mul_add, show x * (65536 * dv ys) = 65536 * (x * dv ys) from by grind]
      generalize (65536 : Int) ^ ps.length = q at *
      generalize (madd ((c + p + x * y) / 65536) x ps ys).2 = k at *
      generalize dv (madd ((c + p + x * y) / 65536) x ps ys).1 = m at *
      rw [show q * 65536 * k = 65536 * (q * k) from by grind]
      generalize q * k = qk at *
      generalize x * dv ys = xd at *
      generalize x * y = xy at *
      omega
theorem mul_inner {za zb zt : Int × Int × Unit} {xs : List Int} {x : Int} {i : Nat} (hi : i ≤ 7) (hx : xs[i]? = some x) : ∀ (ys ps pre yp post : List Int) (j : Nat) (c : Int), ys.length = ps.length → pre.length = i + j → yp.length = j → j + ys.length = 8 →
    itr R30_2 (ys.length + 1) (za, zb, zt, xs, yp ++ ys, pre ++ (ps ++ post), (i : Int), c, (j : Int), ()) = some (za, zb, zt, xs, yp ++ ys, pre ++ ((madd c x ps ys).1 ++ post), (i : Int), (madd c x ps ys).2, ())
  | [], [], pre, yp, post, j, c, hl, hpre, hyp, hj => by
    obtain ⟨za0, za1, ⟨⟩⟩ := za
    obtain ⟨zb0, zb1, ⟨⟩⟩ := zb
    obtain ⟨zt0, zt1, ⟨⟩⟩ := zt
    have hj8 : j = 8 := by simpa using hj
    subst hj8
    refine itr_out ?_
    rfl
  | y :: ys, p :: ps, pre, yp, post, j, c, hl, hpre, hyp, hj => by
    obtain ⟨za0, za1, ⟨⟩⟩ := za
    obtain ⟨zb0, zb1, ⟨⟩⟩ := zb
    obtain ⟨zt0, zt1, ⟨⟩⟩ := zt
    simp only [List.length_cons] at hl hj
    have hstep : R30_2 ((za0, za1, ()), (zb0, zb1, ()), (zt0, zt1, ()), xs, yp ++ y :: ys, pre ++ (p :: ps ++ post), (i : Int), c, (j : Int), ()) =
        some (.inl ((za0, za1, ()), (zb0, zb1, ()), (zt0, zt1, ()), xs, yp ++ y :: ys, pre ++ (Int.tmod (IntKind.wrap .u64 (IntKind.wrap .u64 (c + p) + IntKind.wrap .u64 (x * y))) 65536 :: (ps ++ post)), (i : Int), IntKind.wrap .u64 (Int.tdiv (IntKind.wrap .u64 (IntKind.wrap .u64 (c + p) + IntKind.wrap .u64 (x * y))) 65536), ((j + 1 : Nat) : Int), ())) := by
      unfold R30_2 Q30_2
      simp only []
      have e : IntKind.wrap .i64 ((i : Int) + j) = ((i + j : Nat) : Int) := by rw [wsi (by omega)]; omega
      have e2 : IntKind.wrap .i64 ((j : Int) + 1) = ((j + 1 : Nat) : Int) := by rw [wsi (by omega)]; omega
      rw [e, e2, bif_t (decide_eq_true (by omega)), bif_t (show (decide ((0 : Int) ≤ ((i + j : Nat) : Int)) && decide (((i + j : Nat) : Int) < 17)) = true from by rw [decide_eq_true (by omega), decide_eq_true (by omega)]; rfl),
        bif_t (show (decide ((0 : Int) ≤ (i : Int)) && decide ((i : Int) < 8)) = true from by rw [decide_eq_true (by omega), decide_eq_true (by omega)]; rfl), bif_t (show (decide ((0 : Int) ≤ (j : Int)) && decide ((j : Int) < 8)) = true from by rw [decide_eq_true (by omega), decide_eq_true (by omega)]; rfl),
        bif_t (show Nat.blt (Int.toNat ((i + j : Nat) : Int)) 17 = true from by simp [Nat.blt]; omega)]
      simp only [Int.toNat_natCast, Option.bind_some]
      rw [List.cons_append, get_mid hpre, hx, get_mid hyp]
      simp only [Option.bind_some]
      rw [set_mid hpre]
    rw [List.length_cons, itr_in hstep]
    have := mul_inner (za := (za0, za1, ())) (zb := (zb0, zb1, ())) (zt := (zt0, zt1, ())) hi hx ys ps (pre ++ [Int.tmod (IntKind.wrap .u64 (IntKind.wrap .u64 (c + p) + IntKind.wrap .u64 (x * y))) 65536]) (yp ++ [y]) post (j + 1) (IntKind.wrap .u64 (Int.tdiv (IntKind.wrap .u64 (IntKind.wrap .u64 (c + p) + IntKind.wrap .u64 (x * y))) 65536)) (by omega) (by simp; omega) (by simp; omega) (by omega)
    simpa [madd] using this
/-- The product of two rows of digits, as the rounds make it: ps holds the digits of the rounds' sum so far. -/
def mulr : List Int → List Int → List Int → List Int
  | [], _, ps => ps
  | x :: xs, ys, ps =>
    match (madd 0 x ps ys).1 ++ [(madd 0 x ps ys).2] with
    | [] => []
    | d :: r => d :: mulr xs ys r
theorem mulr_spec : ∀ (xs ys ps : List Int), (∀ x ∈ xs, D16 x) → (∀ y ∈ ys, D16 y) → (∀ p ∈ ps, D16 p) → ps.length = ys.length →
    (mulr xs ys ps).length = xs.length + ps.length ∧ (∀ z ∈ mulr xs ys ps, D16 z) ∧ dv (mulr xs ys ps) = dv ps + dv xs * dv ys
  | [], ys, ps, _, _, hp, _ => ⟨by simp [mulr], by simpa [mulr] using hp, by simp [mulr, dv]⟩
  | x :: xs, ys, ps, hx, hy, hp, hl => by
    obtain ⟨i1, i2, i3, i4⟩ := madd_spec ps ys 0 x hp hy (hx x (by simp)) hl (by unfold D16; omega)
    unfold mulr
    have hd : dv ((madd 0 x ps ys).1 ++ [(madd 0 x ps ys).2]) = dv ps + x * dv ys := by
      rw [dv_app, i1]
      simp only [dv, Int.mul_zero, Int.add_zero]
      omega
    have hlen : ((madd 0 x ps ys).1 ++ [(madd 0 x ps ys).2]).length = ps.length + 1 := by simp [i1]
    have hall : ∀ z ∈ (madd 0 x ps ys).1 ++ [(madd 0 x ps ys).2], D16 z := by
      intro z hz
      rcases List.mem_append.1 hz with h | h
      · exact i2 z h
      · rw [List.mem_singleton.1 h]; exact i3
    generalize (madd 0 x ps ys).1 ++ [(madd 0 x ps ys).2] = l at *
    match l, hlen with
    | d :: r, hlen =>
      simp only [List.length_cons, Nat.add_right_cancel_iff] at hlen
      obtain ⟨k1, k2, k3⟩ := mulr_spec xs ys r (fun z hz => hx z (by simp [hz])) hy (fun z hz => hall z (by simp [hz])) (hlen.trans hl)
      refine ⟨by simp [k1, hlen]; omega, fun z hz => ?_, ?_⟩
      · rcases List.mem_cons.1 hz with rfl | hz
        · exact hall z (by simp)
        · exact k2 z hz
      · simp only [dv] at hd ⊢
        rw [k3]
        rw [Int.add_mul, show 65536 * dv xs * dv ys = 65536 * (dv xs * dv ys) from by grind]
        omega
theorem mul_outer {za zb zt : Int × Int × Unit} {ys : List Int} (hy : ys.length = 8) : ∀ (xs xp pre ps : List Int) (i : Nat), xp.length = i → pre.length = i → ps.length = 8 → i + xs.length = 8 →
    itr R30_0 (xs.length + 1) (za, zb, zt, xp ++ xs, ys, pre ++ (ps ++ List.replicate (xs.length + 1) 0), (i : Int), ()) = some (za, zb, zt, pre ++ (mulr xs ys ps ++ [0]), ())
  | [], xp, pre, ps, i, hxp, hpre, hps, hi => by
    obtain ⟨za0, za1, ⟨⟩⟩ := za
    obtain ⟨zb0, zb1, ⟨⟩⟩ := zb
    obtain ⟨zt0, zt1, ⟨⟩⟩ := zt
    have : i = 8 := by simpa using hi
    subst this
    exact itr_out rfl
  | x :: xs, xp, pre, ps, i, hxp, hpre, hps, hi => by
    obtain ⟨za0, za1, ⟨⟩⟩ := za
    obtain ⟨zb0, zb1, ⟨⟩⟩ := zb
    obtain ⟨zt0, zt1, ⟨⟩⟩ := zt
    simp only [List.length_cons] at hi
    have hin := mul_inner (za := (za0, za1, ())) (zb := (zb0, zb1, ())) (zt := (zt0, zt1, ())) (xs := xp ++ x :: xs) (x := x) (i := i) (by omega) (get_mid hxp) ys ps pre [] (0 :: List.replicate (xs.length + 1) 0) 0 0 (hy.trans hps.symm) hpre rfl (by omega)
    have hin := itrs_of hin (by omega)
    have hml : (madd 0 x ps ys).1.length = 8 := by
      have : ∀ (c : Int) (ps ys : List Int), ps.length = ys.length → (madd c x ps ys).1.length = ps.length := by
        intro c ps
        induction ps generalizing c with
        | nil => intro ys _; cases ys <;> rfl
        | cons p ps ih =>
          intro ys hl
          cases ys with
          | nil => cases hl
          | cons y ys => simp [madd, ih _ ys (by simpa using hl)]
      rw [this 0 ps ys (hps.trans hy.symm), hps]
    obtain ⟨d, r, hdr⟩ : ∃ d r, (madd 0 x ps ys).1 ++ [(madd 0 x ps ys).2] = d :: r := by
      cases h : (madd 0 x ps ys).1 with
      | nil => rw [h] at hml; cases hml
      | cons d r => exact ⟨d, _, rfl⟩
    have hr : r.length = 8 := by
      have := congrArg List.length hdr
      simp [hml] at this
      omega
    have hstep : R30_0 ((za0, za1, ()), (zb0, zb1, ()), (zt0, zt1, ()), xp ++ x :: xs, ys, pre ++ (ps ++ List.replicate (xs.length + 1 + 1) 0), (i : Int), ()) =
        some (.inl ((za0, za1, ()), (zb0, zb1, ()), (zt0, zt1, ()), xp ++ x :: xs, ys, pre ++ [d] ++ (r ++ List.replicate (xs.length + 1) 0), ((i + 1 : Nat) : Int), ())) := by
      unfold R30_0 Q30_0
      simp only []
      rw [bif_t (decide_eq_true (by omega)), List.replicate_succ]
      rw [show itrs R30_2 ((za0, za1, ()), (zb0, zb1, ()), (zt0, zt1, ()), xp ++ x :: xs, ys, pre ++ (ps ++ 0 :: List.replicate (xs.length + 1) 0), (i : Int), 0, 0, ()) = _ from hin]
      simp only [Option.bind_some]
      have e : IntKind.wrap .i64 ((i : Int) + 8) = ((i + 8 : Nat) : Int) := by rw [wsi (by omega)]; omega
      have e2 : IntKind.wrap .i64 ((i : Int) + 1) = ((i + 1 : Nat) : Int) := by rw [wsi (by omega)]; omega
      rw [e, e2, bif_t (show (decide ((0 : Int) ≤ ((i + 8 : Nat) : Int)) && decide (((i + 8 : Nat) : Int) < 17)) = true from by rw [decide_eq_true (by omega), decide_eq_true (by omega)]; rfl), bif_t (show Nat.blt (Int.toNat ((i + 8 : Nat) : Int)) 17 = true from by simp [Nat.blt]; omega)]
      simp only [Int.toNat_natCast, Option.bind_some]
      rw [← List.append_assoc, set_mid (show (pre ++ (madd 0 x ps ys).1).length = i + 8 from by simp [hml, hpre])]
      have : pre ++ (madd 0 x ps ys).1 ++ (madd 0 x ps ys).2 :: List.replicate (xs.length + 1) 0 = pre ++ [d] ++ (r ++ List.replicate (xs.length + 1) 0) := by
        rw [show pre ++ (madd 0 x ps ys).1 ++ (madd 0 x ps ys).2 :: List.replicate (xs.length + 1) 0 = pre ++ ((madd 0 x ps ys).1 ++ [(madd 0 x ps ys).2] ++ List.replicate (xs.length + 1) 0) from by simp, hdr]
        simp
      rw [this]
      rfl
    rw [List.length_cons, itr_in hstep]
    have := mul_outer (za := (za0, za1, ())) (zb := (zb0, zb1, ())) (zt := (zt0, zt1, ())) hy xs (xp ++ [x]) (pre ++ [d]) r (i + 1) (by simp [hxp]) (by simp [hpre]) hr (by omega)
    rw [show xp ++ x :: xs = xp ++ [x] ++ xs from by simp, this]
    simp [mulr, hdr]
theorem mul_zeros {za zb zt : Int × Int × Unit} : ∀ (rest pre : List Int) (i : Nat), pre.length = i → i + rest.length = 17 →
    itr R30_4 (rest.length + 1) (za, zb, zt, pre ++ rest, (i : Int), ()) = some (if ∀ x ∈ rest, x = 0 then .inl (za, zb, zt, pre ++ rest, ()) else .inr ((0, 0, ()), 10, ()))
  | [], pre, i, hpre, hi => by
    obtain ⟨za0, za1, ⟨⟩⟩ := za
    obtain ⟨zb0, zb1, ⟨⟩⟩ := zb
    obtain ⟨zt0, zt1, ⟨⟩⟩ := zt
    have : i = 17 := by simpa using hi
    subst this
    rw [if_pos (fun x h => by cases h)]
    exact itr_out rfl
  | x :: rest, pre, i, hpre, hi => by
    obtain ⟨za0, za1, ⟨⟩⟩ := za
    obtain ⟨zb0, zb1, ⟨⟩⟩ := zb
    obtain ⟨zt0, zt1, ⟨⟩⟩ := zt
    simp only [List.length_cons] at hi
    have hstep : R30_4 ((za0, za1, ()), (zb0, zb1, ()), (zt0, zt1, ()), pre ++ x :: rest, (i : Int), ()) = bif x != 0 then some (.inr (.inr ((0, 0, ()), 10, ()))) else some (.inl ((za0, za1, ()), (zb0, zb1, ()), (zt0, zt1, ()), pre ++ [x] ++ rest, ((i + 1 : Nat) : Int), ())) := by
      unfold R30_4 Q30_4
      simp only []
      have e2 : IntKind.wrap .i64 ((i : Int) + 1) = ((i + 1 : Nat) : Int) := by rw [wsi (by omega)]; omega
      rw [e2, bif_t (decide_eq_true (by omega)), bif_t (show (decide ((0 : Int) ≤ (i : Int)) && decide ((i : Int) < 17)) = true from by rw [decide_eq_true (by omega), decide_eq_true (by omega)]; rfl)]
      simp only [Int.toNat_natCast, Option.bind_some]
      rw [get_mid hpre]
      simp only [Option.bind_some]
      rw [show pre ++ [x] ++ rest = pre ++ x :: rest from by simp]
    rw [List.length_cons, itr_bif hstep, bif_ne]
    by_cases hx : x = 0
    · rw [if_pos hx, mul_zeros rest (pre ++ [x]) (i + 1) (by simp [hpre]) (by omega)]
      subst hx
      simp
    · rw [if_neg hx, if_neg (fun h => hx (h x (by simp)))]
theorem dv_zero : ∀ (l : List Int), (∀ x ∈ l, D16 x) → 0 ≤ dv l ∧ ((∀ x ∈ l, x = 0) ↔ dv l = 0)
  | [], _ => by simp [dv]
  | x :: l, h => by
    obtain ⟨i1, i2⟩ := dv_zero l fun z hz => h z (by simp [hz])
    have hx := h x (by simp)
    unfold D16 at hx
    simp only [dv]
    refine ⟨by omega, ?_⟩
    constructor
    · intro k
      have := k x (by simp)
      have := i2.1 fun z hz => k z (by simp [hz])
      omega
    · intro k z hz
      rcases List.mem_cons.1 hz with rfl | hz
      · omega
      · exact i2.2 (by omega) z hz
theorem rdigits {hi lo : Int} (h1 : 0 ≤ hi ∧ hi ≤ 18446744073709551615) (h2 : 0 ≤ lo ∧ lo ≤ 18446744073709551615) : ∃ d, N56 (hi, lo, ()) = some (d, ()) ∧ d.length = 8 ∧ (∀ x ∈ d, D16 x) ∧ dv d = hi * 18446744073709551616 + lo := by
  have L0 : itrs R56_0 (hi, lo, List.replicate 8 0, List.replicate 8 0, 0, ()) = some (List.replicate 8 0, [Int.tmod (Int.fdiv lo (2 ^ 0)) 65536, Int.tmod (Int.fdiv lo (2 ^ 16)) 65536, Int.tmod (Int.fdiv lo (2 ^ 32)) 65536, Int.tmod (Int.fdiv lo (2 ^ 48)) 65536, Int.tmod (Int.fdiv hi (2 ^ 0)) 65536, Int.tmod (Int.fdiv hi (2 ^ 16)) 65536, Int.tmod (Int.fdiv hi (2 ^ 32)) 65536, Int.tmod (Int.fdiv hi (2 ^ 48)) 65536], ()) := itrs_of (n := 5) (by kernel_rfl) (by omega)
  unfold N56 M56
  simp only [L0, Option.bind_some]
  rw [sh_0, sh_16, sh_32, sh_48, sh_0, sh_16, sh_32, sh_48]
  rw [tmod_pos (by omega), tmod_pos (by omega), tmod_pos (by omega), tmod_pos (by omega), tmod_pos (by omega), tmod_pos (by omega), tmod_pos (by omega), tmod_pos (by omega)]
  refine ⟨_, rfl, rfl, ?_, ?_⟩
  · simp only [List.mem_cons, List.not_mem_nil, or_false, forall_eq_or_imp, forall_eq, D16]
    omega
  · simp only [dv]
    omega
theorem rMul {a0 a1 b0 b1 : Int} (ha : WB a0 a1) (hb : WB b0 b1) : N30 ((a0, a1), (b0, b1), ()) = some (wans (wv a0 a1 * wv b0 b1)) := by
  have hs := sign_mul (a := wv a0 a1) (b := wv b0 b1) (p := decide (a0 < 0)) (q := decide (b0 < 0)) (by unfold WB at ha; unfold wv; simp; omega) (by unfold WB at hb; unfold wv; simp; omega)
  have hm := wabs_mul (wv a0 a1) (wv b0 b1)
  have hA := wabs_in ha
  have hB := wabs_in hb
  obtain ⟨x, x1, x2, x3, x4⟩ := rdigits (hi := wabs (wv a0 a1) / 18446744073709551616) (lo := wabs (wv a0 a1) % 18446744073709551616) (by omega) (by omega)
  obtain ⟨y, y1, y2, y3, y4⟩ := rdigits (hi := wabs (wv b0 b1) / 18446744073709551616) (lo := wabs (wv b0 b1) % 18446744073709551616) (by omega) (by omega)
  have x4 : dv x = wabs (wv a0 a1) := by omega
  have y4 : dv y = wabs (wv b0 b1) := by omega
  have O := itrs_of (mul_outer (za := (a0, a1, ())) (zb := (b0, b1, ())) (zt := (0, 0, ())) y2 x [] [] (List.replicate 8 0) 0 rfl rfl rfl (by omega)) (by omega)
  obtain ⟨m1, m2, m3⟩ := mulr_spec x y (List.replicate 8 0) x3 y3 (by simp [D16]) (by simp [y2])
  rw [x4, y4, show dv (List.replicate 8 0) = 0 from by decide, Int.zero_add, ← hm] at m3
  rw [x2] at m1 O
  have m1 : (mulr x y (List.replicate 8 0)).length = 16 := m1
  rw [show ([] : List Int) ++ (List.replicate 8 0 ++ List.replicate (8 + 1) 0) = List.replicate 17 0 from rfl, List.nil_append, List.nil_append, show ((0 : Nat) : Int) = 0 from rfl] at O
  unfold N30 M30
  simp only []
  rw [rAbs ha]
  simp only [Option.bind_some, x1]
  rw [rAbs hb]
  simp only [Option.bind_some, y1]
  rw [O]
  simp only [Option.bind_some]
  generalize mulr x y (List.replicate 8 0) = p at *
  match p, m1 with
  | d0 :: d1 :: d2 :: d3 :: d4 :: d5 :: d6 :: d7 :: rest, m1 =>
    have hlen : rest.length = 8 := by simpa using m1
    have Zs := itrs_of (mul_zeros (za := (a0, a1, ())) (zb := (b0, b1, ())) (zt := (0, 0, ())) (rest ++ [0]) [d0, d1, d2, d3, d4, d5, d6, d7] 8 rfl (by simp [hlen])) (by simp [hlen])
    rw [show [d0, d1, d2, d3, d4, d5, d6, d7] ++ (rest ++ [0]) = d0 :: d1 :: d2 :: d3 :: d4 :: d5 :: d6 :: d7 :: rest ++ [0] from rfl] at Zs
    rw [show ((8 : Nat) : Int) = 8 from rfl] at Zs
    rw [Zs]
    simp only [Option.bind_some]
    have hd : ∀ z ∈ rest ++ [0], D16 z := by
      intro z hz
      rcases List.mem_append.1 hz with h | h
      · exact m2 z (by simp [h])
      · rw [List.mem_singleton.1 h]; unfold D16; omega
    obtain ⟨z1, z2⟩ := dv_zero (rest ++ [0]) hd
    have hdv : dv (rest ++ [0]) = dv rest := by rw [dv_app]; simp [dv]
    rw [hdv] at z1 z2
    have g : D16 d0 ∧ D16 d1 ∧ D16 d2 ∧ D16 d3 ∧ D16 d4 ∧ D16 d5 ∧ D16 d6 ∧ D16 d7 := ⟨m2 _ (by simp), m2 _ (by simp), m2 _ (by simp), m2 _ (by simp), m2 _ (by simp), m2 _ (by simp), m2 _ (by simp), m2 _ (by simp)⟩
    obtain ⟨g0, g1, g2, g3, g4, g5, g6, g7⟩ := g
    simp only [dv] at m3
    by_cases hz : ∀ z ∈ rest ++ [0], z = 0
    · have h0 := z2.1 hz
      rw [if_pos hz]
      simp only []
      have L6 : ∀ t, itrs R30_6 ((a0, a1, ()), (b0, b1, ()), (0, 0, ()), d0 :: d1 :: d2 :: d3 :: d4 :: d5 :: d6 :: d7 :: t, 0, 0, 3, ()) = some ((a0, a1, ()), (b0, b1, ()), (0, 0, ()), IntKind.wrap .u64 (IntKind.wrap .u64 (IntKind.wrap .u64 (IntKind.wrap .u64 (IntKind.wrap .u64 (IntKind.wrap .u64 (IntKind.wrap .u64 (IntKind.wrap .u64 (0 * 65536) + d7) * 65536) + d6) * 65536) + d5) * 65536) + d4), IntKind.wrap .u64 (IntKind.wrap .u64 (IntKind.wrap .u64 (IntKind.wrap .u64 (IntKind.wrap .u64 (IntKind.wrap .u64 (IntKind.wrap .u64 (IntKind.wrap .u64 (0 * 65536) + d3) * 65536) + d2) * 65536) + d1) * 65536) + d0), ()) := fun t => itrs_of (n := 5) (by kernel_rfl) (by omega)
      rw [List.cons_append, List.cons_append, List.cons_append, List.cons_append, List.cons_append, List.cons_append, List.cons_append, List.cons_append, L6, horner g0 g1 g2 g3, horner g4 g5 g6 g7]
      simp only [Option.bind_some]
      unfold D16 at *
      rw [rJoin _ (by omega) (by omega)]
      simp only [Option.bind_some]
      rw [← hm] at hs
      rw [show (d4 + 65536 * (d5 + 65536 * (d6 + 65536 * d7))) * 18446744073709551616 + (d0 + 65536 * (d1 + 65536 * (d2 + 65536 * d3))) = wabs (wv a0 a1 * wv b0 b1) from by omega, hs]
    · rw [if_neg hz]
      have h0 : ¬ dv rest = 0 := fun h => hz (z2.2 h)
      simp only []
      unfold D16 at *
      rw [wans_past (by omega)]
end Go.Proofs.Ytgdnleanagclaaa.E
namespace Go.Proofs.Ytgdnleanagclaaa.E
open Go
set_option linter.unusedVariables false
set_option maxRecDepth 100000
def blk (q s : Int) : Int := q / s + (if q % s = 0 then 0 else 1)
def fitB (s q : Int) : Bool := decide (1 ≤ s) && decide (s ≤ 1000000000000) && decide (0 ≤ q) && decide (q ≤ 1099511627776)
theorem fitB_iff {s q : Int} : fitB s q = true ↔ 1 ≤ s ∧ s ≤ 1000000000000 ∧ 0 ≤ q ∧ q ≤ 1099511627776 := by
  unfold fitB
  simp only [Bool.and_eq_true, decide_eq_true_eq]
  omega
def LB (l : (Int × Int) × (Int × Int) × (Int × Int)) : Prop := WB l.1.1 l.1.2 ∧ WB l.2.1.1 l.2.1.2 ∧ WB l.2.2.1 l.2.2.2
def over : (Int × Int) × Int × Unit := ((0, 0), 10, ())
def valans (A B C s q : Int) : (Int × Int) × Int × Unit :=
  if fitB s q = true then (if inR (B * q) then (if inR (C * blk q s) then (if inR (A + B * q) then wans (A + B * q + C * blk q s) else over) else over) else over) else ((0, 0), 1, ())
theorem blk_in {s q : Int} (h : fitB s q = true) : 0 ≤ blk q s ∧ blk q s ≤ 1099511627777 := by
  obtain ⟨h1, h2, h3, h4⟩ := fitB_iff.1 h
  have a := Int.ediv_nonneg h3 (show 0 ≤ s by omega)
  have b : q / s ≤ q := Int.ediv_le_self _ h3
  unfold blk
  split <;> omega
theorem lfit {s q : Int} : N23 (s, q, ()) = some (fitB s q, ()) := by
  unfold N23 M23 fitB
  simp only [bif_p]
  by_cases h1 : 1 ≤ s <;> by_cases h2 : s ≤ 1000000000000 <;> by_cases h3 : 0 ≤ q <;> simp [h1, h2, h3, GE.ge]
theorem rfits {s q : Int} : N25 (s, q, ()) = some (fitB s q, ()) := by
  unfold N25 M25 fitB
  simp only [bif_p]
  by_cases h1 : 1 ≤ s <;> by_cases h2 : s ≤ 1000000000000 <;> by_cases h3 : 0 ≤ q <;> simp [h1, h2, h3, GE.ge]
theorem lblocks {s q : Int} (h : fitB s q = true) : N28 (q, s, ()) = some (blk q s, ()) := by
  obtain ⟨h1, h2, h3, h4⟩ := fitB_iff.1 h
  have hb := blk_in h
  have a := Int.ediv_nonneg h3 (show 0 ≤ s by omega)
  have b : q / s ≤ q := Int.ediv_le_self _ h3
  have r0 := Int.emod_nonneg q (show s ≠ 0 by omega)
  unfold N28 M28
  simp only []
  rw [bif_t (show (!s == 0) = true from by simp; omega)]
  simp only [Option.bind_some]
  rw [tdiv_pos h3, tmod_pos h3, wsi (n := q / s) (by omega)]
  unfold blk at *
  rw [show (if 1 < q % s then (1 : Int) else q % s) = if q % s = 0 then 0 else 1 from by (repeat' split) <;> omega, wsi (by omega)]
theorem rBlocks {s q : Int} (h : fitB s q = true) : N32 (q, s, ()) = some (blk q s, ()) := by
  obtain ⟨h1, h2, h3, h4⟩ := fitB_iff.1 h
  have a := Int.ediv_nonneg h3 (show 0 ≤ s by omega)
  have b : q / s ≤ q := Int.ediv_le_self _ h3
  unfold N32 M32
  simp only []
  rw [bif_t (show (!s == 0) = true from by simp; omega)]
  simp only [Option.bind_some]
  rw [tdiv_pos h3, tmod_pos h3, wsi (n := q / s) (by omega), wsi (n := q / s + 1) (by omega), bif_ne]
  unfold blk
  by_cases hz : q % s = 0
  · rw [if_pos hz, if_pos hz, Int.add_zero]
  · rw [if_neg hz, if_neg hz]
theorem wvi {a : Int} : wv (a / 18446744073709551616) (a % 18446744073709551616) = a := wv_of a
theorem lValue {l : (Int × Int) × (Int × Int) × (Int × Int)} (hl : LB l) (s q : Int) : N10 (l, s, q, ()) = some (valans (wv l.1.1 l.1.2) (wv l.2.1.1 l.2.1.2) (wv l.2.2.1 l.2.2.2) s q) := by
  obtain ⟨⟨a0, a1⟩, ⟨b0, b1⟩, ⟨c0, c1⟩⟩ := l
  obtain ⟨ha, hb, hc⟩ := hl
  simp only at ha hb hc ⊢
  unfold N10 M10 valans
  simp only []
  rw [lfit]
  simp only [Option.bind_some, bif_not]
  cases hf : fitB s q with
  | false => rfl
  | true =>
    simp only [cond_true, if_true]
    obtain ⟨h1, h2, h3, h4⟩ := fitB_iff.1 hf
    have hbk := blk_in hf
    rw [wOf (a := q) (by omega)]
    simp only [Option.bind_some]
    rw [wMul hb (WB_of (by omega)), wvi]
    by_cases i1 : inR (wv b0 b1 * q)
    · rw [if_pos i1, wans_in i1]
      simp only [Option.bind_some, bne_self_eq_false, cond_false]
      rw [lblocks hf]
      simp only [Option.bind_some]
      rw [wOf (a := blk q s) (by omega)]
      simp only [Option.bind_some]
      rw [wMul hc (WB_of (by omega)), wvi]
      by_cases i2 : inR (wv c0 c1 * blk q s)
      · rw [if_pos i2, wans_in i2]
        simp only [Option.bind_some, bne_self_eq_false, cond_false]
        rw [wAdd ha (WB_in i1), wvi]
        by_cases i3 : inR (wv a0 a1 + wv b0 b1 * q)
        · rw [if_pos i3, wans_in i3]
          simp only [Option.bind_some, bne_self_eq_false, cond_false]
          rw [wAdd (WB_in i3) (WB_in i2), wvi, wvi]
          rfl
        · rw [if_neg i3, wans_out i3]
          rfl
      · rw [if_neg i2, wans_out i2]
        rfl
    · rw [if_neg i1, wans_out i1]
      rfl
theorem rValue {l : (Int × Int) × (Int × Int) × (Int × Int)} (hl : LB l) (s q : Int) : N11 (l, s, q, ()) = some (valans (wv l.1.1 l.1.2) (wv l.2.1.1 l.2.1.2) (wv l.2.2.1 l.2.2.2) s q) := by
  obtain ⟨⟨a0, a1⟩, ⟨b0, b1⟩, ⟨c0, c1⟩⟩ := l
  obtain ⟨ha, hb, hc⟩ := hl
  simp only at ha hb hc ⊢
  unfold N11 M11 valans
  simp only []
  rw [rfits]
  simp only [Option.bind_some, bif_not]
  cases hf : fitB s q with
  | false => rfl
  | true =>
    simp only [cond_true, if_true]
    obtain ⟨h1, h2, h3, h4⟩ := fitB_iff.1 hf
    have hbk := blk_in hf
    rw [rOf (a := q) (by omega)]
    simp only [Option.bind_some]
    rw [rMul hb (WB_of (by omega)), wvi]
    simp only [Option.bind_some]
    rw [rBlocks hf]
    simp only [Option.bind_some]
    rw [rOf (a := blk q s) (by omega)]
    simp only [Option.bind_some]
    rw [rMul hc (WB_of (by omega)), wvi]
    simp only [Option.bind_some]
    by_cases i1 : inR (wv b0 b1 * q)
    · rw [if_pos i1, wans_in i1]
      simp only [bne_self_eq_false, cond_false]
      by_cases i2 : inR (wv c0 c1 * blk q s)
      · rw [if_pos i2, wans_in i2]
        simp only [bne_self_eq_false, cond_false]
        rw [rAdd ha (WB_in i1), wvi]
        by_cases i3 : inR (wv a0 a1 + wv b0 b1 * q)
        · rw [if_pos i3, wans_in i3]
          simp only [Option.bind_some, bne_self_eq_false, cond_false]
          rw [rAdd (WB_in i3) (WB_in i2), wvi, wvi]
          rfl
        · rw [if_neg i3, wans_out i3]
          rfl
      · rw [if_neg i2, wans_out i2]
        rfl
    · rw [if_neg i1, wans_out i1]
      rfl
theorem rNeg {a0 a1 : Int} (ha : WB a0 a1) : N50 ((a0, a1), ()) = some (wans (-wv a0 a1)) := by
  obtain ⟨d, k1, k2⟩ := rDigits ha
  obtain ⟨t, j1, j2⟩ := rTurned k2
  have h1 := wv_in ha
  unfold N50 M50
  simp only [k1, j1, Option.bind_some]
  rw [rtold (v := -wv a0 a1) (by omega) (Long_eq j2 (by unfold long; omega))]
  rfl
theorem lfar {a0 a1 : Int} (ha : WB a0 a1) : N24 ((a0, a1), ()) = some (wans (wabs (wv a0 a1))) := by
  unfold N24 M24 wabs
  simp only [bif_p]
  have : a0 < 0 ↔ wv a0 a1 < 0 := by unfold WB at ha; unfold wv; omega
  by_cases h : a0 < 0
  · rw [if_pos h, if_pos (this.1 h), wNeg ha]
    rfl
  · rw [if_neg h, if_neg fun k => h (this.2 k), wans_wv ha]
theorem rfar {a0 a1 : Int} (ha : WB a0 a1) : N26 ((a0, a1), ()) = some (wans (wabs (wv a0 a1))) := by
  unfold N26 M26 wabs
  simp only [bif_p]
  have : a0 < 0 ↔ wv a0 a1 < 0 := by unfold WB at ha; unfold wv; omega
  by_cases h : a0 < 0
  · rw [if_pos h, if_pos (this.1 h), rNeg ha]
    rfl
  · rw [if_neg h, if_neg fun k => h (this.2 k), wans_wv ha]
def spanans (A B C s : Int) : (Int × Int) × Int × Unit :=
  if fitB s 0 = true then (if inR (wabs A) then (if inR (wabs B) then (if inR (wabs C) then valans (wabs A) (wabs B) (wabs C) s 1099511627776 else over) else over) else over) else ((0, 0), 1, ())
theorem lSpan {l : (Int × Int) × (Int × Int) × (Int × Int)} (hl : LB l) (s : Int) : N8 (l, s, ()) = some (spanans (wv l.1.1 l.1.2) (wv l.2.1.1 l.2.1.2) (wv l.2.2.1 l.2.2.2) s) := by
  obtain ⟨⟨a0, a1⟩, ⟨b0, b1⟩, ⟨c0, c1⟩⟩ := l
  obtain ⟨ha, hb, hc⟩ := hl
  simp only at ha hb hc ⊢
  unfold N8 M8 spanans
  simp only []
  rw [lfit, lfar ha, lfar hb, lfar hc]
  simp only [Option.bind_some, bif_not]
  cases hf : fitB s 0 with
  | false => rfl
  | true =>
    simp only [cond_true, if_true]
    by_cases i1 : inR (wabs (wv a0 a1))
    · rw [if_pos i1, wans_in i1]
      by_cases i2 : inR (wabs (wv b0 b1))
      · rw [if_pos i2, wans_in i2]
        by_cases i3 : inR (wabs (wv c0 c1))
        · rw [if_pos i3, wans_in i3]
          simp only [bne_self_eq_false, cond_false]
          rw [lValue ⟨WB_in i1, WB_in i2, WB_in i3⟩]
          simp only [wvi]
          rfl
        · rw [if_neg i3, wans_out i3]
          rfl
      · rw [if_neg i2, wans_out i2]
        rfl
    · rw [if_neg i1, wans_out i1]
      rfl
theorem rSpan {l : (Int × Int) × (Int × Int) × (Int × Int)} (hl : LB l) (s : Int) : N9 (l, s, ()) = some (spanans (wv l.1.1 l.1.2) (wv l.2.1.1 l.2.1.2) (wv l.2.2.1 l.2.2.2) s) := by
  obtain ⟨⟨a0, a1⟩, ⟨b0, b1⟩, ⟨c0, c1⟩⟩ := l
  obtain ⟨ha, hb, hc⟩ := hl
  simp only at ha hb hc ⊢
  unfold N9 M9 spanans
  simp only []
  rw [rfits, rfar ha, rfar hb, rfar hc]
  simp only [Option.bind_some, bif_not]
  cases hf : fitB s 0 with
  | false => rfl
  | true =>
    simp only [cond_true, if_true]
    by_cases i1 : inR (wabs (wv a0 a1))
    · rw [if_pos i1, wans_in i1]
      by_cases i2 : inR (wabs (wv b0 b1))
      · rw [if_pos i2, wans_in i2]
        by_cases i3 : inR (wabs (wv c0 c1))
        · rw [if_pos i3, wans_in i3]
          simp only [bne_self_eq_false, cond_false]
          rw [rValue ⟨WB_in i1, WB_in i2, WB_in i3⟩]
          simp only [wvi]
          rfl
        · rw [if_neg i3, wans_out i3]
          rfl
      · rw [if_neg i2, wans_out i2]
        rfl
    · rw [if_neg i1, wans_out i1]
      rfl
end Go.Proofs.Ytgdnleanagclaaa.E
namespace Go.Proofs.Ytgdnleanagclaaa.E
open Go
set_option linter.unusedVariables false
set_option maxRecDepth 100000
def lv (A B C s q : Int) : Int := A + B * q + C * blk q s
def st (A B C s q : Int) : Bool := decide (lv A B C s q > 0)
/-- x is the first place above q at which the state is another one, or the one behind the last. -/
structure FlipAt (A B C s q x : Int) : Prop where
  above : q < x
  top : x ≤ 1099511627777
  same : ∀ y, q < y → y < x → st A B C s y = st A B C s q
  turn : x ≤ 1099511627776 → st A B C s x ≠ st A B C s q
theorem FlipAt.unique {A B C s q x y : Int} (hx : FlipAt A B C s q x) (hy : FlipAt A B C s q y) : x = y := by
  obtain ⟨a1, a2, a3, a4⟩ := hx
  obtain ⟨b1, b2, b3, b4⟩ := hy
  rcases Int.lt_trichotomy x y with h | h | h
  · exact absurd (b3 x a1 h) (a4 (by omega))
  · exact h
  · exact absurd (a3 y b1 h) (b4 (by omega))
theorem blk_of {s q : Int} (hs : 1 ≤ s) : (blk q s - 1) * s + 1 ≤ q ∧ q ≤ blk q s * s := by
  have h := Int.mul_ediv_add_emod q s
  have r0 := Int.emod_nonneg q (show s ≠ 0 by omega)
  have r1 := Int.emod_lt_of_pos q (show 0 < s by omega)
  have e : s * (q / s) = q / s * s := Int.mul_comm _ _
  unfold blk
  split
  · rw [Int.add_zero, Int.sub_mul]; omega
  · rw [Int.add_mul, Int.sub_mul, Int.add_mul]; omega
theorem blk_eq {s q k : Int} (hs : 1 ≤ s) (h1 : (k - 1) * s + 1 ≤ q) (h2 : q ≤ k * s) : blk q s = k := by
  obtain ⟨a, b⟩ := blk_of (q := q) hs
  rcases Int.lt_trichotomy (blk q s) k with h | h | h
  · have := Int.mul_le_mul_of_nonneg_right (show blk q s ≤ k - 1 by omega) (show 0 ≤ s by omega); omega
  · exact h
  · have := Int.mul_le_mul_of_nonneg_right (show k ≤ blk q s - 1 by omega) (show 0 ≤ s by omega); omega
theorem blk_mono {s p q : Int} (hs : 1 ≤ s) (h : p ≤ q) : blk p s ≤ blk q s := by
  obtain ⟨a, b⟩ := blk_of (q := q) hs
  obtain ⟨c, d⟩ := blk_of (q := p) hs
  by_cases h' : blk q s < blk p s
  · have := Int.mul_le_mul_of_nonneg_right (show blk q s ≤ blk p s - 1 by omega) (show 0 ≤ s by omega); omega
  · omega
/-- Within a block the line is straight. -/
theorem lv_in {A B C s p q : Int} (h : blk p s = blk q s) : lv A B C s q = lv A B C s p + (q - p) * B := by
  unfold lv
  rw [h, Int.sub_mul, Int.mul_comm q B, Int.mul_comm p B]
  omega
/-- From block to block too. -/
theorem lv_far {A B C s p n : Int} (hs : 1 ≤ s) : lv A B C s (p + n * s) = lv A B C s p + n * (B * s + C) := by
  have hb : blk (p + n * s) s = blk p s + n := by
    obtain ⟨a, b⟩ := blk_of (q := p) hs
    refine blk_eq hs ?_ ?_
    · rw [show blk p s + n - 1 = (blk p s - 1) + n from by omega, Int.add_mul]; omega
    · rw [Int.add_mul]; omega
  unfold lv
  rw [hb, Int.mul_add, Int.mul_add, Int.mul_add, show B * (n * s) = n * (B * s) from by rw [← Int.mul_assoc, Int.mul_comm B n, Int.mul_assoc], Int.mul_comm C n]
  omega
/-- What both ends of a straight line are, it is between them. -/
theorem between {v d n m : Int} {w : Bool} (h0 : 0 ≤ n) (h1 : n ≤ m) (a : decide (v > 0) = w) (b : decide (v + m * d > 0) = w) : decide (v + n * d > 0) = w := by
  cases w with
  | true =>
    have a := of_decide_eq_true a
    have b := of_decide_eq_true b
    refine decide_eq_true ?_
    rcases Int.le_total 0 d with hd | hd
    · have := Int.mul_nonneg h0 hd; omega
    · have := Int.mul_le_mul_of_nonpos_right h1 hd; omega
  | false =>
    have a := of_decide_eq_false a
    have b := of_decide_eq_false b
    refine decide_eq_false ?_
    rcases Int.le_total 0 d with hd | hd
    · have := Int.mul_le_mul_of_nonneg_right h1 hd; omega
    · have := Int.mul_nonpos_of_nonneg_of_nonpos h0 hd; omega
theorem st_between {A B C s lo y hi : Int} {w : Bool} (hs : 1 ≤ s) (hb : blk lo s = blk hi s) (h1 : lo ≤ y) (h2 : y ≤ hi) (a : st A B C s lo = w) (b : st A B C s hi = w) : st A B C s y = w := by
  have e1 := blk_mono hs h1
  have e2 := blk_mono hs h2
  unfold st at *
  rw [lv_in hb] at b
  rw [lv_in (show blk lo s = blk y s by omega)]
  exact between (by omega) (by omega) a b
theorem st_far {A B C s p n m : Int} {w : Bool} (hs : 1 ≤ s) (h0 : 0 ≤ n) (h1 : n ≤ m) (a : st A B C s p = w) (b : st A B C s (p + m * s) = w) : st A B C s (p + n * s) = w := by
  unfold st at *
  rw [lv_far hs] at b ⊢
  exact between h0 h1 a b
/-- How often d is to be added until the state is another one. -/
def Steps (v d most : Int) (w : Bool) (k : Int) (ok : Bool) : Prop :=
  (ok = true → 0 ≤ k ∧ k ≤ most ∧ decide (v + k * d > 0) ≠ w ∧ ∀ n, 0 ≤ n → n < k → decide (v + n * d > 0) = w) ∧ (ok = false → ∀ n, 0 ≤ n → n ≤ most → decide (v + n * d > 0) = w)
theorem steps_now {v d most : Int} {w : Bool} (hm : 0 ≤ most) (h : decide (v > 0) ≠ w) : Steps v d most w 0 true := by
  refine ⟨fun _ => ⟨by omega, hm, ?_, fun n h0 h1 => by omega⟩, fun h => by cases h⟩
  rw [Int.zero_mul, Int.add_zero]
  exact h
theorem steps_never {v d most k : Int} {w : Bool} (h : decide (v > 0) = w) (hd : (w = true ∧ 0 ≤ d) ∨ (w = false ∧ d ≤ 0)) : Steps v d most w k false := by
  refine ⟨fun h => (by cases h), fun _ n h0 h1 => ?_⟩
  rcases hd with ⟨rfl, hd⟩ | ⟨rfl, hd⟩
  · have := Int.mul_nonneg h0 hd
    have := of_decide_eq_true h
    exact decide_eq_true (by omega)
  · have := Int.mul_nonpos_of_nonneg_of_nonpos h0 hd
    have := of_decide_eq_false h
    exact decide_eq_false (by omega)
/-- The count that is the first one. -/
theorem steps_first {v d most K k : Int} {w ok : Bool} (h0 : 0 ≤ K) (h1 : decide (v + K * d > 0) ≠ w) (h2 : ∀ n, 0 ≤ n → n < K → decide (v + n * d > 0) = w) (hk : ok = true → k = K ∧ K ≤ most) (hn : ok = false → most < K) : Steps v d most w k ok := by
  refine ⟨fun h => ?_, fun h n a b => h2 n a (by have := hn h; omega)⟩
  obtain ⟨rfl, h3⟩ := hk h
  exact ⟨h0, h3, h1, h2⟩
theorem floor_steps {v d : Int} (hv : v ≤ 0) (hd : 0 < d) : 0 ≤ -v / d ∧ decide (v + (-v / d + 1) * d > 0) ≠ false ∧ ∀ n, 0 ≤ n → n < -v / d + 1 → decide (v + n * d > 0) = false := by
  have h := Int.mul_ediv_add_emod (-v) d
  have r0 := Int.emod_nonneg (-v) (show d ≠ 0 by omega)
  have r1 := Int.emod_lt_of_pos (-v) hd
  have e : d * (-v / d) = -v / d * d := Int.mul_comm _ _
  refine ⟨Int.ediv_nonneg (by omega) (by omega), ?_, fun n h0 h1 => ?_⟩
  · rw [decide_eq_true (by rw [Int.add_mul]; omega)]
    decide
  · have := Int.mul_le_mul_of_nonneg_right (show n ≤ -v / d by omega) (show 0 ≤ d by omega)
    exact decide_eq_false (by omega)
/-- Rounded up. -/
def up (v e : Int) : Int := if v % e = 0 then v / e else v / e + 1
theorem up_steps {v d : Int} (hv : 0 < v) (hd : d < 0) : 0 ≤ up v (-d) ∧ decide (v + up v (-d) * d > 0) ≠ true ∧ ∀ n, 0 ≤ n → n < up v (-d) → decide (v + n * d > 0) = true := by
  have h := Int.mul_ediv_add_emod v (-d)
  have r0 := Int.emod_nonneg v (show -d ≠ 0 by omega)
  have r1 := Int.emod_lt_of_pos v (show 0 < -d by omega)
  have e : -d * (v / -d) = -(v / -d * d) := by rw [Int.mul_comm, Int.mul_neg]
  have q0 := Int.ediv_nonneg (show 0 ≤ v by omega) (show 0 ≤ -d by omega)
  unfold up
  split
  · refine ⟨q0, ?_, fun n h0 h1 => ?_⟩
    · rw [decide_eq_false (by omega)]
      decide
    · have := Int.mul_le_mul_of_nonpos_right (show n + 1 ≤ v / -d by omega) (show d ≤ 0 by omega)
      rw [Int.add_mul] at this
      exact decide_eq_true (by omega)
  · refine ⟨by omega, ?_, fun n h0 h1 => ?_⟩
    · rw [decide_eq_false (by rw [Int.add_mul]; omega)]
      decide
    · have := Int.mul_le_mul_of_nonpos_right (show n ≤ v / -d by omega) (show d ≤ 0 by omega)
      exact decide_eq_true (by omega)
end Go.Proofs.Ytgdnleanagclaaa.E
namespace Go.Proofs.Ytgdnleanagclaaa.E
open Go
set_option linter.unusedVariables false
set_option maxRecDepth 100000
/-- The quotient digit: what it is, by its two bounds. -/
structure Dig (D n u Q : Int) : Prop where
  lo : Q * D ≤ n * 4294967296 + u
  hi : n * 4294967296 + u < Q * D + D
  q0 : 0 ≤ Q
  q1 : Q ≤ 4294967295
theorem dig_of {D n u : Int} (hD : 0 < D) (hn : 0 ≤ n ∧ n < D) (hu : 0 ≤ u ∧ u ≤ 4294967295) : Dig D n u ((n * 4294967296 + u) / D) := by
  have h1 := Int.mul_ediv_add_emod (n * 4294967296 + u) D
  have h2 := Int.emod_nonneg (n * 4294967296 + u) (Int.ne_of_gt hD)
  have h3 := Int.emod_lt_of_pos (n * 4294967296 + u) hD
  have h4 : 0 ≤ (n * 4294967296 + u) / D := Int.ediv_nonneg (by omega) (by omega)
  have h5 : (n * 4294967296 + u) / D < 4294967296 := Int.ediv_lt_of_lt_mul hD (by omega)
  rw [Int.mul_comm] at h1
  exact ⟨by omega, by omega, h4, by omega⟩
theorem dig_above {D d1 d0 n u Q q r : Int} (hD : D = d1 * 4294967296 + d0) (h1 : 0 ≤ d1) (h0 : 0 ≤ d0) (hQ : Dig D n u Q) (e : n = q * d1 + r) : (q * d0 > 4294967296 * r + u ↔ Q < q) := by
  have hD0 : 0 ≤ D := by omega
  have e1 : q * D = q * d1 * 4294967296 + q * d0 := by rw [hD, Int.mul_add, Int.mul_assoc]
  have h2 := hQ.lo
  have h3 := hQ.hi
  constructor
  · intro h
    rcases Int.lt_or_le Q q with h4 | h4
    · exact h4
    · have := Int.mul_le_mul_of_nonneg_right h4 hD0
      omega
  · intro h
    have := Int.mul_le_mul_of_nonneg_right (show Q + 1 ≤ q by omega) hD0
    rw [Int.add_mul, Int.one_mul] at this
    omega
/-- Behind a step whose rest is past 2^32 the digit is found. -/
theorem dig_found {D d1 d0 n u Q q r : Int} (hD : D = d1 * 4294967296 + d0) (h1 : 0 ≤ d1) (h0 : 0 ≤ d0 ∧ d0 ≤ 4294967295) (hu : 0 ≤ u) (hQ : Dig D n u Q) (e : n = q * d1 + r) (hr : 4294967296 ≤ r) (hq : 0 ≤ q ∧ q ≤ 4294967295) (ha : Q ≤ q) : q = Q := by
  rcases Int.lt_or_le Q q with h4 | h4
  · have := (dig_above hD h1 h0.1 hQ e).2 h4
    have h5 : q * d0 ≤ 4294967295 * 4294967295 := Int.mul_le_mul hq.2 h0.2 h0.1 (by omega)
    omega
  · omega
/-- A guess past 2^32 leaves a small rest. -/
theorem dig_big {D d1 d0 n q r : Int} (hD : D = d1 * 4294967296 + d0) (h1 : 0 ≤ d1) (hn : n < D) (e : n = q * d1 + r) (hq : 4294967296 ≤ q) : r < d0 := by
  have := Int.mul_le_mul_of_nonneg_right hq h1
  omega
theorem dig_test {D d1 d0 n u Q q r : Int} (hD : D = d1 * 4294967296 + d0) (h1 : 2147483648 ≤ d1 ∧ d1 ≤ 4294967295) (h0 : 0 ≤ d0 ∧ d0 ≤ 4294967295) (hn : 0 ≤ n ∧ n < D) (hu : 0 ≤ u ∧ u ≤ 4294967295) (hQ : Dig D n u Q) (e : n = q * d1 + r) (hr : 0 ≤ r ∧ r ≤ 4294967295) (ha : Q ≤ q) (hq2 : q ≤ 4294967297) {α : Type} (X Y : α) :
    (bif decide (q ≥ 4294967296) then X else bif decide (IntKind.wrap .u64 (q * d0) > IntKind.wrap .u64 (IntKind.wrap .u64 (4294967296 * r) + u)) then X else Y) = if Q < q then X else Y := by
  have hup := dig_above hD (by omega) h0.1 hQ e
  have hq0 := hQ.q0
  have hq1 := hQ.q1
  by_cases hb : q ≥ 4294967296
  · rw [bif_t (decide_eq_true hb), if_pos (by omega)]
  · rw [bif_f (decide_eq_false hb)]
    have hm : 0 ≤ q * d0 := Int.mul_nonneg (by omega) h0.1
    have hm2 : q * d0 ≤ 4294967295 * 4294967295 := Int.mul_le_mul (by omega) h0.2 h0.1 (by omega)
    rw [wui (n := q * d0) (by omega), wui (n := 4294967296 * r) (by omega), wui (n := 4294967296 * r + u) (by omega), bif_p]
    by_cases h : Q < q
    · rw [if_pos h, if_pos (hup.2 h)]
    · rw [if_neg h, if_neg fun k => h (hup.1 k)]
theorem dig_past {D d1 d0 n u Q q r : Int} (hD : D = d1 * 4294967296 + d0) (h1 : 2147483648 ≤ d1 ∧ d1 ≤ 4294967295) (h0 : 0 ≤ d0 ∧ d0 ≤ 4294967295) (hn : 0 ≤ n ∧ n < D) (hu : 0 ≤ u ∧ u ≤ 4294967295) (hQ : Dig D n u Q) (e : n = q * d1 + r) (hr : 0 ≤ r ∧ r ≤ 4294967295) (hlt : Q < q) (hr2 : r + d1 ≥ 4294967296) : q - 1 = Q := by
  have hq0 := hQ.q0
  have e' : n = (q - 1) * d1 + (r + d1) := by rw [Int.sub_mul, Int.one_mul]; omega
  have hq2 : q - 1 ≤ 4294967295 := by
    rcases Int.lt_or_le 4294967295 (q - 1) with h | h
    · have := dig_big hD (by omega) hn.2 e' (by omega)
      omega
    · exact h
  exact dig_found hD (by omega) h0 hu.1 hQ e' hr2 ⟨by omega, hq2⟩ (by omega)
theorem first_digit {D d1 d0 n u Q : Int} (s u2 : Int) (hD : D = d1 * 4294967296 + d0) (h1 : 2147483648 ≤ d1 ∧ d1 ≤ 4294967295) (h0 : 0 ≤ d0 ∧ d0 ≤ 4294967295) (hn : 0 ≤ n ∧ n < D) (hu : 0 ≤ u ∧ u ≤ 4294967295) (hQ : Dig D n u Q) :
    ∀ (t : Nat) (q r : Int), 4294967296 - r ≤ (t : Int) * 2147483648 → n = q * d1 + r → 0 ≤ r ∧ r ≤ 4294967295 → Q ≤ q → q ≤ 4294967297 →
      itr R73_0 t (D, s, d1, d0, n, u, u2, q, r, ()) = some (D, s, d1, d0, n, u, u2, Q, ()) := by
  intro t
  induction t with
  | zero =>
    intro q r ht e hr ha hq
    omega
  | succ t ih =>
    intro q r ht e hr ha hq
    have hq0 := hQ.q0
    have hround : R73_0 (D, s, d1, d0, n, u, u2, q, r, ()) = if Q < q then (bif decide (r + d1 ≥ 4294967296) then some (.inr (D, s, d1, d0, n, u, u2, q - 1, ())) else some (.inl (D, s, d1, d0, n, u, u2, q - 1, r + d1, ()))) else some (.inr (D, s, d1, d0, n, u, u2, q, ())) := by
      unfold R73_0 Q73_0
      simp only []
      rw [← dig_test hD h1 h0 hn hu hQ e hr ha hq]
      rw [wui (n := r + d1) (by omega)]
      by_cases hlt : Q < q
      · rw [wui (n := q - 1) (by omega)]
      · have : q = Q := by omega
        have := hQ.q1
        rw [bif_f (decide_eq_false (show ¬ q ≥ 4294967296 by omega)), bif_f (decide_eq_false (show ¬ q ≥ 4294967296 by omega))]
        have hm : 0 ≤ q * d0 := Int.mul_nonneg (by omega) h0.1
        have hm2 : q * d0 ≤ 4294967295 * 4294967295 := Int.mul_le_mul (by omega) h0.2 h0.1 (by omega)
        have hup := dig_above hD (by omega) h0.1 hQ e
        rw [wui (n := q * d0) (by omega), wui (n := 4294967296 * r) (by omega), wui (n := 4294967296 * r + u) (by omega), bif_f (decide_eq_false fun k => hlt (hup.1 k)), bif_f (decide_eq_false fun k => hlt (hup.1 k))]
    rw [itr_succ, hround]
    by_cases hlt : Q < q
    · rw [if_pos hlt]
      by_cases hr2 : r + d1 ≥ 4294967296
      · rw [bif_t (decide_eq_true hr2), dig_past hD h1 h0 hn hu hQ e hr hlt hr2]
      · rw [bif_f (decide_eq_false hr2)]
        exact ih (q - 1) (r + d1) (by omega) (by rw [Int.sub_mul, Int.one_mul]; omega) (by omega) (by omega) (by omega)
    · rw [if_neg hlt, show q = Q from by omega]
theorem second_digit {D d1 d0 n u Q : Int} (s q1 : Int) (hD : D = d1 * 4294967296 + d0) (h1 : 2147483648 ≤ d1 ∧ d1 ≤ 4294967295) (h0 : 0 ≤ d0 ∧ d0 ≤ 4294967295) (hn : 0 ≤ n ∧ n < D) (hu : 0 ≤ u ∧ u ≤ 4294967295) (hQ : Dig D n u Q) (m : Int) :
    ∀ (t : Nat) (q r : Int), 4294967296 - r ≤ (t : Int) * 2147483648 → n = q * d1 + r → 0 ≤ r ∧ r ≤ 4294967295 → Q ≤ q → q ≤ 4294967297 →
      itr R73_2 t (D, s, d1, d0, u, q1, r, m, q, ()) = some (D, s, u, q1, m, Q, ()) := by
  intro t
  induction t with
  | zero =>
    intro q r ht e hr ha hq
    omega
  | succ t ih =>
    intro q r ht e hr ha hq
    have hq0 := hQ.q0
    have hround : R73_2 (D, s, d1, d0, u, q1, r, m, q, ()) = if Q < q then (bif decide (r + d1 ≥ 4294967296) then some (.inr (D, s, u, q1, m, q - 1, ())) else some (.inl (D, s, d1, d0, u, q1, r + d1, m, q - 1, ()))) else some (.inr (D, s, u, q1, m, q, ())) := by
      unfold R73_2 Q73_2
      simp only []
      rw [← dig_test hD h1 h0 hn hu hQ e hr ha hq]
      rw [wui (n := r + d1) (by omega)]
      by_cases hlt : Q < q
      · rw [wui (n := q - 1) (by omega)]
      · have : q = Q := by omega
        have := hQ.q1
        rw [bif_f (decide_eq_false (show ¬ q ≥ 4294967296 by omega)), bif_f (decide_eq_false (show ¬ q ≥ 4294967296 by omega))]
        have hm : 0 ≤ q * d0 := Int.mul_nonneg (by omega) h0.1
        have hm2 : q * d0 ≤ 4294967295 * 4294967295 := Int.mul_le_mul (by omega) h0.2 h0.1 (by omega)
        have hup := dig_above hD (by omega) h0.1 hQ e
        rw [wui (n := q * d0) (by omega), wui (n := 4294967296 * r) (by omega), wui (n := 4294967296 * r + u) (by omega), bif_f (decide_eq_false fun k => hlt (hup.1 k)), bif_f (decide_eq_false fun k => hlt (hup.1 k))]
    rw [itr_succ, hround]
    by_cases hlt : Q < q
    · rw [if_pos hlt]
      by_cases hr2 : r + d1 ≥ 4294967296
      · rw [bif_t (decide_eq_true hr2), dig_past hD h1 h0 hn hu hQ e hr hlt hr2]
      · rw [bif_f (decide_eq_false hr2)]
        exact ih (q - 1) (r + d1) (by omega) (by rw [Int.sub_mul, Int.one_mul]; omega) (by omega) (by omega) (by omega)
    · rw [if_neg hlt, show q = Q from by omega]
/-- The first guess: n / d1. -/
theorem guess {D d1 d0 n u Q : Int} (hD : D = d1 * 4294967296 + d0) (h1 : 2147483648 ≤ d1 ∧ d1 ≤ 4294967295) (h0 : 0 ≤ d0 ∧ d0 ≤ 4294967295) (hn : 0 ≤ n ∧ n < D) (hu : 0 ≤ u ∧ u ≤ 4294967295) (hQ : Dig D n u Q) :
    n = n / d1 * d1 + n % d1 ∧ (0 ≤ n % d1 ∧ n % d1 ≤ 4294967295) ∧ Q ≤ n / d1 ∧ n / d1 ≤ 4294967297 ∧ 0 ≤ n / d1 := by
  have e := Int.mul_ediv_add_emod n d1
  rw [Int.mul_comm] at e
  have r0 := Int.emod_nonneg n (show d1 ≠ 0 by omega)
  have r1 := Int.emod_lt_of_pos n (show 0 < d1 by omega)
  have q0 : 0 ≤ n / d1 := Int.ediv_nonneg hn.1 (by omega)
  have hup := dig_above hD (by omega) h0.1 hQ e.symm
  refine ⟨by omega, ⟨r0, by omega⟩, ?_, ?_, q0⟩
  · rcases Int.lt_or_le (n / d1) Q with h | h
    · exfalso
      have h2 := hQ.lo
      have h3 := Int.mul_le_mul_of_nonneg_right (show n / d1 + 1 ≤ Q by omega) (show 0 ≤ D by omega)
      have e1 : (n / d1 + 1) * D = (n / d1 * d1 + d1) * 4294967296 + (n / d1 * d0 + d0) := by rw [hD, Int.add_mul, Int.one_mul, Int.mul_add, Int.add_mul, Int.mul_assoc]; omega
      have h4 : 0 ≤ n / d1 * d0 := Int.mul_nonneg q0 h0.1
      omega
    · exact h
  · rcases Int.lt_or_le 4294967297 (n / d1) with h | h
    · exfalso
      have := Int.mul_le_mul_of_nonneg_right (show 4294967298 ≤ n / d1 by omega) (show 0 ≤ d1 by omega)
      omega
    · exact h
theorem or_parts {a b S : Int} {s : Nat} (hS : S = 2 ^ s) (ha : 0 ≤ a) (hb : 0 ≤ b ∧ b < S) (h : a * S + b ≤ 18446744073709551615) : IntKind.wrap .u64 ↑(BitVec.toNat (BitVec.ofInt 64 (a * S) ||| BitVec.ofInt 64 b)) = a * S + b := by
  have hS0 : 0 < S := by rw [hS]; exact Int.pow_pos (by decide)
  have h0 : 0 ≤ a * S := Int.mul_nonneg ha (by omega)
  obtain ⟨A, rfl⟩ := Int.eq_ofNat_of_zero_le ha
  obtain ⟨B, rfl⟩ := Int.eq_ofNat_of_zero_le hb.1
  have e : ((A : Int) * S) = ((A * 2 ^ s : Nat) : Int) := by rw [hS]; simp
  have hB : B < 2 ^ s := by have := hb.2; rw [hS] at this; exact_mod_cast this
  rw [e] at h ⊢
  have := u64_or_nat (A * 2 ^ s) B (by omega) (by omega)
  rw [show IntKind.wrap .u64 ↑(BitVec.toNat (BitVec.ofInt 64 ((A * 2 ^ s : Nat) : Int) ||| BitVec.ofInt 64 ((B : Nat) : Int))) = Go.bits .or .u64 ((A * 2 ^ s : Nat) : Int) ((B : Nat) : Int) from rfl, this, Nat.mul_comm, ← Nat.two_pow_add_eq_or_of_lt hB]
  simp
/-- Quotient and rest, by what makes them. -/
theorem div_mod_of {a b q r : Int} (hb : 0 < b) (e : a = q * b + r) (hr : 0 ≤ r ∧ r < b) : a / b = q ∧ a % b = r := by
  subst e
  refine ⟨?_, ?_⟩
  · rw [Int.add_comm, Int.add_mul_ediv_right _ _ (by omega), Int.ediv_eq_zero_of_lt hr.1 hr.2, Int.zero_add]
  · rw [Int.add_comm, Int.add_mul_emod_self_right, Int.emod_eq_of_lt hr.1 hr.2]
end Go.Proofs.Ytgdnleanagclaaa.E
namespace Go.Proofs.Ytgdnleanagclaaa.E
open Go
set_option linter.unusedVariables false
set_option maxRecDepth 100000
theorem wLen64 {x : Int} (h : 0 ≤ x ∧ x ≤ 18446744073709551615) : N75 (x, ()) = some (((Go.bitLen x.toNat : Nat) : Int), ()) := by
  unfold N75 M75
  simp only [fdiv_pos (show (0 : Int) ≤ 4294967296 by omega), fdiv_pos (show (0 : Int) ≤ 65536 by omega), fdiv_pos (show (0 : Int) ≤ 256 by omega)]
  generalize hT : List.toArray (List.append (List.append _ _) (List.append _ _)) = T
  have tab : ∀ i : _root_.Fin 256, T[i.val]? = some (UInt8.ofNat (Go.bitLen i.val)) := by subst hT; decide +kernel
  have l8 : ∀ i : _root_.Fin 256, ((UInt8.ofNat (Go.bitLen i.val)).toNat : Int) = ((Go.bitLen i.val : Nat) : Int) ∧ Go.bitLen i.val ≤ 8 := by decide +kernel
  clear hT
  obtain ⟨X, rfl⟩ := Int.eq_ofNat_of_zero_le h.1
  rw [Int.toNat_natCast]
  have sh := fun b (h : X / 2 ^ b ≠ 0) => Go.bitLen_shift X b h
  have key : ∀ (Y b : Nat), Y < 256 → Go.bitLen X = b + Go.bitLen Y → b ≤ 56 → ((bif decide (0 ≤ IntKind.wrap .u8 (Y : Int)) then T[Int.toNat (IntKind.wrap .u8 (Y : Int))]? else none).bind fun y3 => some (IntKind.wrap .i64 ((b : Int) + IntKind.wrap .i64 ↑(UInt8.toNat y3)), ())) = some (((Go.bitLen X : Nat) : Int), ()) := by
    intro Y b hY e hb
    have e1 : IntKind.wrap .u8 (Y : Int) = (Y : Int) := by rw [w8]; omega
    rw [e1, bif_t (decide_eq_true (by omega)), Int.toNat_natCast, tab ⟨Y, hY⟩]
    obtain ⟨k1, k2⟩ := l8 ⟨Y, hY⟩
    simp only [Option.bind_some]
    rw [k1]
    simp only at k1 k2 ⊢
    rw [wsi (n := ((Go.bitLen Y : Nat) : Int)) (by omega), wsi (by omega), e]
    congr 2
  have key0 : ∀ (Y : Nat), Y < 256 → Go.bitLen X = Go.bitLen Y → ((bif decide (0 ≤ IntKind.wrap .u8 (Y : Int)) then T[Int.toNat (IntKind.wrap .u8 (Y : Int))]? else none).bind fun y3 => some (IntKind.wrap .i64 (0 + IntKind.wrap .i64 ↑(UInt8.toNat y3)), ())) = some (((Go.bitLen X : Nat) : Int), ()) := by
    intro Y hY e
    exact key Y 0 hY (by omega) (by omega)
  have hX : X ≤ 18446744073709551615 := by omega
  have d : ∀ b : Nat, ((X : Int) / ((2 ^ b : Nat) : Int)) = ((X / 2 ^ b : Nat) : Int) := fun b => (Int.natCast_ediv _ _).symm
  have sh2 : ∀ b, 2 ^ b ≤ X → Go.bitLen X = b + Go.bitLen (X / 2 ^ b) := fun b hb => sh b (by have := Nat.div_pos hb (Nat.two_pow_pos b); omega)
  have e32 : (X : Int) / 4294967296 = ((X / 2 ^ 32 : Nat) : Int) := d 32
  have e16 : (X : Int) / 65536 = ((X / 2 ^ 16 : Nat) : Int) := d 16
  have e8 : (X : Int) / 256 = ((X / 2 ^ 8 : Nat) : Int) := d 8
  have e48 : (X : Int) / 4294967296 / 65536 = ((X / 2 ^ 48 : Nat) : Int) := by rw [Int.ediv_ediv_of_nonneg (by omega)]; exact d 48
  have e56 : (X : Int) / 4294967296 / 65536 / 256 = ((X / 2 ^ 56 : Nat) : Int) := by rw [Int.ediv_ediv_of_nonneg (by omega), Int.ediv_ediv_of_nonneg (by omega)]; exact d 56
  have e40 : (X : Int) / 4294967296 / 256 = ((X / 2 ^ 40 : Nat) : Int) := by rw [Int.ediv_ediv_of_nonneg (by omega)]; exact d 40
  have e24 : (X : Int) / 65536 / 256 = ((X / 2 ^ 24 : Nat) : Int) := by rw [Int.ediv_ediv_of_nonneg (by omega)]; exact d 24
  rw [e56, e48, e40, e32, e24, e16, e8]
  simp only [bif_p]
  have p8 : (2 : Nat) ^ 8 = 256 := rfl
  have p16 : (2 : Nat) ^ 16 = 65536 := rfl
  have p24 : (2 : Nat) ^ 24 = 16777216 := rfl
  have p32 : (2 : Nat) ^ 32 = 4294967296 := rfl
  have p40 : (2 : Nat) ^ 40 = 1099511627776 := rfl
  have p48 : (2 : Nat) ^ 48 = 281474976710656 := rfl
  have p56 : (2 : Nat) ^ 56 = 72057594037927936 := rfl
  have s8 := sh2 8
  have s16 := sh2 16
  have s24 := sh2 24
  have s32 := sh2 32
  have s40 := sh2 40
  have s48 := sh2 48
  have s56 := sh2 56
  rw [p8] at *
  rw [p16] at *
  rw [p24] at *
  rw [p32] at *
  rw [p40] at *
  rw [p48] at *
  rw [p56] at *
  by_cases h32 : X ≥ 4294967296
  · rw [if_pos (show (X : Int) ≥ 4294967296 by omega)]
    by_cases h16 : X / 4294967296 ≥ 65536
    · rw [if_pos (show ((X / 4294967296 : Nat) : Int) ≥ 65536 by omega)]
      by_cases h8 : X / 281474976710656 ≥ 256
      · rw [if_pos (show ((X / 281474976710656 : Nat) : Int) ≥ 256 by omega)]
        have := key (X / 72057594037927936) 56 (by omega) (s56 (by omega)) (by omega)
        rw [bif_p] at this; exact this
      · rw [if_neg (show ¬ ((X / 281474976710656 : Nat) : Int) ≥ 256 by omega)]
        have := key (X / 281474976710656) 48 (by omega) (s48 (by omega)) (by omega)
        rw [bif_p] at this; exact this
    · rw [if_neg (show ¬ ((X / 4294967296 : Nat) : Int) ≥ 65536 by omega)]
      by_cases h8 : X / 4294967296 ≥ 256
      · rw [if_pos (show ((X / 4294967296 : Nat) : Int) ≥ 256 by omega)]
        have := key (X / 1099511627776) 40 (by omega) (s40 (by omega)) (by omega)
        rw [bif_p] at this; exact this
      · rw [if_neg (show ¬ ((X / 4294967296 : Nat) : Int) ≥ 256 by omega)]
        have := key (X / 4294967296) 32 (by omega) (s32 (by omega)) (by omega)
        rw [bif_p] at this; exact this
  · rw [if_neg (show ¬ (X : Int) ≥ 4294967296 by omega)]
    by_cases h16 : X ≥ 65536
    · rw [if_pos (show (X : Int) ≥ 65536 by omega)]
      by_cases h8 : X / 65536 ≥ 256
      · rw [if_pos (show ((X / 65536 : Nat) : Int) ≥ 256 by omega)]
        have := key (X / 16777216) 24 (by omega) (s24 (by omega)) (by omega)
        rw [bif_p] at this; exact this
      · rw [if_neg (show ¬ ((X / 65536 : Nat) : Int) ≥ 256 by omega)]
        have := key (X / 65536) 16 (by omega) (s16 (by omega)) (by omega)
        rw [bif_p] at this; exact this
    · rw [if_neg (show ¬ (X : Int) ≥ 65536 by omega)]
      by_cases h8 : X ≥ 256
      · rw [if_pos (show (X : Int) ≥ 256 by omega)]
        have := key (X / 256) 8 (by omega) (s8 (by omega)) (by omega)
        rw [bif_p] at this; exact this
      · rw [if_neg (show ¬ (X : Int) ≥ 256 by omega)]
        have := key0 X (by omega) rfl
        rw [bif_p] at this; exact this
theorem bitLen_two (y : Int) (h : 1 ≤ y ∧ y ≤ 18446744073709551615) : 1 ≤ Go.bitLen y.toNat ∧ Go.bitLen y.toNat ≤ 64 ∧ (2 : Int) ^ (Go.bitLen y.toNat - 1) ≤ y ∧ y < 2 ^ Go.bitLen y.toNat := by
  obtain ⟨Y, rfl⟩ := Int.eq_ofNat_of_zero_le (show 0 ≤ y by omega)
  rw [Int.toNat_natCast]
  obtain ⟨h3, h2⟩ := Go.bitLen_spec Y
  have h2 := h2 (by omega)
  have h1 : 1 ≤ Go.bitLen Y := by
    rcases Nat.eq_zero_or_pos (Go.bitLen Y) with e | e
    · rw [e] at h3; omega
    · exact e
  refine ⟨h1, ?_, by exact_mod_cast h2, by exact_mod_cast h3⟩
  rcases Nat.lt_or_ge 64 (Go.bitLen Y) with h4 | h4
  · have h5 : 2 ^ 64 ≤ 2 ^ (Go.bitLen Y - 1) := Nat.pow_le_pow_right (by decide) (by omega)
    omega
  · exact h4
theorem wrap_div {m d1 : Int} {D d0 : Int} (hD : D = d1 * 4294967296 + d0) (h1 : 2147483648 ≤ d1 ∧ d1 ≤ 4294967295) (h0 : 0 ≤ d0 ∧ d0 ≤ 4294967295) (hm : 0 ≤ m ∧ m < D) {u Q : Int} (hu : 0 ≤ u ∧ u ≤ 4294967295) (hQ : Dig D m u Q) :
    IntKind.wrap .u64 (Int.tdiv m d1) = m / d1 ∧ IntKind.wrap .u64 (m - IntKind.wrap .u64 (m / d1 * d1)) = m % d1 := by
  obtain ⟨e, hr, hq, hq2, hq0⟩ := guess hD h1 h0 hm hu hQ
  have hp : 0 ≤ m / d1 * d1 := Int.mul_nonneg hq0 (by omega)
  rw [tdiv_pos hm.1, wui (n := m / d1) (by omega), wui (n := m / d1 * d1) (by omega), wui (by omega)]
  exact ⟨rfl, by omega⟩
theorem pow_min {s : Nat} (h : s ≤ 64) : (2 : Int) ^ min (Int.toNat (s : Int)) 64 = 2 ^ s := by rw [Int.toNat_natCast, Nat.min_eq_left h]
theorem wDiv64 {hi lo y : Int} (h1 : 0 ≤ hi ∧ hi < y) (hy : y ≤ 18446744073709551615) (hl : 0 ≤ lo ∧ lo ≤ 18446744073709551615) :
    N73 (hi, lo, y, ()) = some ((hi * 18446744073709551616 + lo) / y, (hi * 18446744073709551616 + lo) % y, ()) := by
  unfold N73 M73
  simp only []
  rw [bif_f (show (y == 0) = false from by simp; omega), bif_f (decide_eq_false (by omega))]
  by_cases h0 : hi = 0
  · rw [bif_t (show (hi == 0) = true from by simpa using h0), bif_t (show (!y == 0) = true from by simp; omega)]
    simp only [Option.bind_some]
    rw [h0, Int.zero_mul, Int.zero_add, tdiv_pos hl.1, tmod_pos hl.1]
    have a1 : 0 ≤ lo / y := Int.ediv_nonneg hl.1 (by omega)
    have a2 : lo / y ≤ lo := Int.ediv_le_self _ hl.1
    rw [wui (by omega)]
  · rw [bif_f (show (hi == 0) = false from by simpa using h0)]
    obtain ⟨l1, l2, l3, l4⟩ := bitLen_two y (by omega)
    have hlz : N74 (y, ()) = some (((64 - Go.bitLen y.toNat : Nat) : Int), ()) := by
      unfold N74 M74
      simp only []
      rw [wLen64 (by omega)]
      simp only [Option.bind_some]
      rw [wsi (by omega)]
      congr 2
      omega
    rw [hlz]
    simp only [Option.bind_some]
    generalize hL : Go.bitLen y.toNat = L at *
    obtain ⟨s, hs⟩ : ∃ s, s = 64 - L := ⟨_, rfl⟩
    rw [← hs, wui (n := (s : Int)) (by omega), show (64 : Int) - s = ((64 - s : Nat) : Int) from by omega, wui (n := ((64 - s : Nat) : Int)) (by omega)]
    rw [bif_t (decide_eq_true (show (0 : Int) ≤ (s : Int) by omega)), bif_t (decide_eq_true (show (0 : Int) ≤ ((64 - s : Nat) : Int) by omega))]
    simp only [Option.bind_some]
    rw [pow_min (by omega), pow_min (by omega)]
    have hST : (2 : Int) ^ s * 2 ^ (64 - s) = 18446744073709551616 := by rw [← Int.pow_add, show s + (64 - s) = 64 from by omega]; decide
    have hS : (0 : Int) < 2 ^ s := Int.pow_pos (by decide)
    have hT : (0 : Int) < 2 ^ (64 - s) := Int.pow_pos (by decide)
    have hTL : (2 : Int) ^ (64 - s) = 2 ^ L := by rw [show 64 - s = L from by omega]
    have hT1 : (2 : Int) ^ (64 - s) = 2 * 2 ^ (L - 1) := by
      have e : (2 : Int) ^ L = 2 ^ (L - 1 + 1) := by congr 1; omega
      rw [hTL, e, Int.pow_succ]; omega
    have hD1 : y * 2 ^ s ≤ 18446744073709551616 - 2 ^ s := by
      have := Int.mul_le_mul_of_nonneg_right (show y + 1 ≤ 2 ^ (64 - s) by omega) (Int.le_of_lt hS)
      rw [Int.add_mul, Int.one_mul, Int.mul_comm (2 ^ (64 - s))] at this
      omega
    have hD2 : 9223372036854775808 ≤ y * 2 ^ s := by
      have := Int.mul_le_mul_of_nonneg_right (show 2 ^ (64 - s) ≤ 2 * y by omega) (Int.le_of_lt hS)
      rw [Int.mul_comm (2 ^ (64 - s)), Int.mul_assoc] at this
      omega
    have hhi : hi * 2 ^ s ≤ y * 2 ^ s - 2 ^ s := by
      have := Int.mul_le_mul_of_nonneg_right (show hi + 1 ≤ y by omega) (Int.le_of_lt hS)
      rw [Int.add_mul, Int.one_mul] at this
      omega
    have hhi0 : 0 ≤ hi * 2 ^ s := Int.mul_nonneg h1.1 (Int.le_of_lt hS)
    have hlT : 0 ≤ lo / 2 ^ (64 - s) ∧ lo / 2 ^ (64 - s) < 2 ^ s := ⟨Int.ediv_nonneg hl.1 (Int.le_of_lt hT), Int.ediv_lt_of_lt_mul hT (by omega)⟩
    rw [wui (n := y * 2 ^ s) (by omega), wui (n := hi * 2 ^ s) (by omega), fdiv_pos (a := lo) (b := 2 ^ (64 - s)) (by omega), wu (lo * 2 ^ s)]
    rw [or_parts rfl h1.1 hlT (by omega)]
    have hlo2 : lo * 2 ^ s = lo / 2 ^ (64 - s) * 18446744073709551616 + lo * 2 ^ s % 18446744073709551616 := by
      have e1 := Int.mul_ediv_add_emod lo (2 ^ (64 - s))
      have e2 : lo * 2 ^ s / 18446744073709551616 = lo / 2 ^ (64 - s) := by
        rw [← hST, Int.mul_comm lo, Int.mul_ediv_mul_of_pos _ _ hS]
      have e3 := Int.mul_ediv_add_emod (lo * 2 ^ s) 18446744073709551616
      rw [e2] at e3
      omega
    generalize hlx : lo / 2 ^ (64 - s) = t at *
    generalize hly : lo * 2 ^ s % 18446744073709551616 = x at *
    have hx : 0 ≤ x ∧ x < 18446744073709551616 := by rw [← hly]; omega
    generalize hDy : y * 2 ^ s = D at *
    rw [fdiv_pos (a := D) (b := 4294967296) (by omega), fdiv_pos (a := x) (b := 4294967296) (by omega), bif_t (show (!D / 4294967296 == 0) = true from by simp; omega)]
    simp only [Option.bind_some]
    rw [and_low (z := D) (by omega), and_low (z := x) (by omega)]
    -- the two digits
    have gD : D = D / 4294967296 * 4294967296 + D % 4294967296 := by omega
    have gd1 : 2147483648 ≤ D / 4294967296 ∧ D / 4294967296 ≤ 4294967295 := by omega
    have gd0 : 0 ≤ D % 4294967296 ∧ D % 4294967296 ≤ 4294967295 := by omega
    have gn : 0 ≤ hi * 2 ^ s + t ∧ hi * 2 ^ s + t < D := by omega
    have gu1 : 0 ≤ x / 4294967296 ∧ x / 4294967296 ≤ 4294967295 := by omega
    have gu0 : 0 ≤ x % 4294967296 ∧ x % 4294967296 ≤ 4294967295 := by omega
    have gx : x = x / 4294967296 * 4294967296 + x % 4294967296 := by omega
    generalize D / 4294967296 = d1 at *
    generalize D % 4294967296 = d0 at *
    generalize x / 4294967296 = u1 at *
    generalize x % 4294967296 = u0 at *
    generalize hne : hi * 2 ^ s + t = n at *
    have hD0 : 0 < D := by omega
    have hQ1 := dig_of hD0 gn gu1
    generalize (n * 4294967296 + u1) / D = Q1 at hQ1
    have a1 := hQ1.lo
    have a2 := hQ1.hi
    have a3 := hQ1.q0
    have a4 := hQ1.q1
    have hn2 : 0 ≤ n * 4294967296 + u1 - Q1 * D ∧ n * 4294967296 + u1 - Q1 * D < D := by omega
    have hQ0 := dig_of hD0 hn2 gu0
    generalize hn2e : n * 4294967296 + u1 - Q1 * D = n2 at *
    generalize (n2 * 4294967296 + u0) / D = Q0 at hQ0
    have b1 := hQ0.lo
    have b2 := hQ0.hi
    have b3 := hQ0.q0
    have b4 := hQ0.q1
    obtain ⟨w1, w2⟩ := wrap_div gD gd1 gd0 gn gu1 hQ1
    obtain ⟨e, hr, hq, hq2, hq0⟩ := guess gD gd1 gd0 gn gu1 hQ1
    rw [w1, w2]
    have F1 := itrs_of (first_digit (s : Int) u0 gD gd1 gd0 gn gu1 hQ1 2 (n / d1) (n % d1) (by omega) e hr hq hq2) (by omega)
    rw [F1]
    simp only [Option.bind_some]
    rw [bif_t (show (!d1 == 0) = true from by simp; omega)]
    simp only [Option.bind_some]
    have e21 : IntKind.wrap .u64 (IntKind.wrap .u64 (IntKind.wrap .u64 (n * 4294967296) + u1) - IntKind.wrap .u64 (Q1 * D)) = n2 := by
      simp only [wu]
      omega
    rw [e21]
    obtain ⟨w3, w4⟩ := wrap_div gD gd1 gd0 hn2 gu0 hQ0
    obtain ⟨f, fr, fq, fq2, fq0⟩ := guess gD gd1 gd0 hn2 gu0 hQ0
    rw [w3, w4]
    have F2 := itrs_of (second_digit (s : Int) Q1 gD gd1 gd0 hn2 gu0 hQ0 n2 2 (n2 / d1) (n2 % d1) (by omega) f fr fq fq2) (by omega)
    rw [F2]
    simp only [Option.bind_some]
    rw [bif_t (decide_eq_true (show (0 : Int) ≤ (s : Int) by omega))]
    simp only [Option.bind_some]
    rw [pow_min (by omega)]
    have e22 : IntKind.wrap .u64 (IntKind.wrap .u64 (IntKind.wrap .u64 (n2 * 4294967296) + u0) - IntKind.wrap .u64 (Q0 * D)) = n2 * 4294967296 + u0 - Q0 * D := by
      simp only [wu]
      omega
    rw [e22, wui (n := Q1 * 4294967296) (by omega), wui (n := Q1 * 4294967296 + Q0) (by omega), fdiv_pos (by omega)]
    generalize hre : n2 * 4294967296 + u0 - Q0 * D = r2 at *
    generalize hqe : Q1 * 4294967296 + Q0 = q at *
    have eq2 : n * 18446744073709551616 + x = q * D + r2 := by
      rw [← hqe, Int.add_mul, Int.mul_assoc, Int.mul_comm 4294967296 D, ← Int.mul_assoc]
      omega
    have eM : (hi * 18446744073709551616 + lo) * 2 ^ s = q * D + r2 := by
      rw [Int.add_mul, hlo2, Int.mul_right_comm]
      omega
    have er : r2 = (hi * 18446744073709551616 + lo - q * y) * 2 ^ s := by
      rw [Int.sub_mul, Int.mul_assoc q y, hDy]
      omega
    have e1 : r2 / 2 ^ s = hi * 18446744073709551616 + lo - q * y := by rw [er, Int.mul_ediv_cancel _ (by omega)]
    have r0 : 0 ≤ r2 := by omega
    have r1 : r2 < D := by omega
    have hr0 : 0 ≤ hi * 18446744073709551616 + lo - q * y := by rw [← e1]; exact Int.ediv_nonneg r0 (Int.le_of_lt hS)
    have hr1 : hi * 18446744073709551616 + lo - q * y < y := by rw [← e1]; exact Int.ediv_lt_of_lt_mul hS (by rw [hDy]; exact r1)
    obtain ⟨f1, f2⟩ := div_mod_of (a := hi * 18446744073709551616 + lo) (b := y) (q := q) (r := hi * 18446744073709551616 + lo - q * y) (by omega) (by omega) ⟨hr0, hr1⟩
    rw [f1, f2, e1]
end Go.Proofs.Ytgdnleanagclaaa.E
namespace Go.Proofs.Ytgdnleanagclaaa.E
open Go
set_option linter.unusedVariables false
set_option maxRecDepth 100000
theorem and_bit {x : Int} (h : 0 ≤ x ∧ x ≤ 18446744073709551615) : IntKind.wrap .u64 ↑(BitVec.toNat (BitVec.ofInt 64 x &&& BitVec.ofInt 64 1)) = x % 2 := by
  obtain ⟨X, rfl⟩ := Int.eq_ofNat_of_zero_le h.1
  have := u64_and_nat X 1 (by omega) (by omega)
  rw [show IntKind.wrap .u64 ↑(BitVec.toNat (BitVec.ofInt 64 (X : Int) &&& BitVec.ofInt 64 1)) = Go.bits .and .u64 (X : Int) ((1 : Nat) : Int) from rfl, this, Nat.and_one_is_mod]
  simp
theorem two_step {a : Int} {m : Nat} : a / 2 ^ m = 2 * (a / 2 ^ (m + 1)) + a / 2 ^ m % 2 := by
  have hp : (0 : Int) < 2 ^ m := Int.pow_pos (by decide)
  rw [Int.pow_succ, ← Int.ediv_ediv_of_nonneg (Int.le_of_lt hp)]
  omega
theorem qr_l0 (a al bh bl : Int) (hbh : 0 ≤ bh) (hbl : 0 ≤ bl ∧ bl ≤ 18446744073709551615) (hB : bh * 18446744073709551616 + bl ≤ 170141183460469231731687303715884105728) (hB0 : 18446744073709551616 ≤ bh * 18446744073709551616 + bl)
    (hal : 0 ≤ al ∧ al ≤ 18446744073709551615) (ha : 0 ≤ a) (hal2 : a % 18446744073709551616 = al) (haB : a < (bh * 18446744073709551616 + bl) * 18446744073709551616) : ∀ (m : Nat) (Q R : Int), m ≤ 64 →
      a / 2 ^ m = Q * (bh * 18446744073709551616 + bl) + R → 0 ≤ R ∧ R < bh * 18446744073709551616 + bl → 0 ≤ Q →
      itr R72_0 (m + 1) (al, bh, bl, Q * 2 ^ m, R / 18446744073709551616, R % 18446744073709551616, (m : Int) - 1, ()) =
        some (a / (bh * 18446744073709551616 + bl), a % (bh * 18446744073709551616 + bl) / 18446744073709551616, a % (bh * 18446744073709551616 + bl) % 18446744073709551616, ()) := by
  intro m
  induction m with
  | zero =>
    intro Q R hm e hR hQ
    rw [Int.pow_zero, Int.ediv_one] at e
    obtain ⟨e1, e2⟩ := div_mod_of (by omega) e hR
    refine itr_out ?_
    unfold R72_0 Q72_0
    simp only []
    rw [bif_f (decide_eq_false (by omega)), e1, e2, Int.pow_zero, Int.mul_one]
  | succ m ih =>
    intro Q R hm e hR hQ
    have hp : (0 : Int) < 2 ^ m := Int.pow_pos (by decide)
    have hp2 : (2 : Int) ^ (m + 1) = 2 * 2 ^ m := by rw [Int.pow_succ]; omega
    have hstep := two_step (a := a) (m := m)
    have hbit : 0 ≤ a / 2 ^ m % 2 ∧ a / 2 ^ m % 2 ≤ 1 := by omega
    have ebit : al / 2 ^ m % 2 = a / 2 ^ m % 2 := by
      have h1 := Int.mul_ediv_add_emod a 18446744073709551616
      rw [hal2] at h1
      have h2 : (18446744073709551616 : Int) = 2 ^ m * (2 * 2 ^ (63 - m)) := by
        rw [show (18446744073709551616 : Int) = 2 ^ 64 from by decide, show (64 : Nat) = m + (1 + (63 - m)) from by omega, Int.pow_add, Int.pow_add]
        rfl
      have h3 : a / 2 ^ m = 2 * (2 ^ (63 - m) * (a / 18446744073709551616)) + al / 2 ^ m := by
        conv => lhs; rw [← h1, h2]
        rw [show (2 : Int) ^ m * (2 * 2 ^ (63 - m)) * (a / (2 ^ m * (2 * 2 ^ (63 - m)))) + al = al + 2 ^ m * (2 * (2 ^ (63 - m) * (a / (2 ^ m * (2 * 2 ^ (63 - m)))))) from by
          rw [Int.mul_assoc (2 ^ m), Int.mul_assoc 2]; omega, Int.add_mul_ediv_left _ _ (by omega), ← h2]
        omega
      omega
    have o1 : IntKind.wrap .u64 ↑(BitVec.toNat (BitVec.ofInt 64 (IntKind.wrap .u64 (R / 18446744073709551616 * 2)) ||| BitVec.ofInt 64 (Int.fdiv (R % 18446744073709551616) 9223372036854775808))) = (2 * R + a / 2 ^ m % 2) / 18446744073709551616 := by
      rw [fdiv_pos (by omega), wui (n := R / 18446744073709551616 * 2) (by omega), or_parts (s := 1) (by rfl) (by omega) (by omega) (by omega)]
      omega
    have o2 : IntKind.wrap .u64 ↑(BitVec.toNat (BitVec.ofInt 64 (IntKind.wrap .u64 (R % 18446744073709551616 * 2)) ||| BitVec.ofInt 64 (IntKind.wrap .u64 ↑(BitVec.toNat (BitVec.ofInt 64 (Int.fdiv al (2 ^ min (Int.toNat (m : Int)) 64)) &&& BitVec.ofInt 64 1))))) = (2 * R + a / 2 ^ m % 2) % 18446744073709551616 := by
      have hs0 : 0 ≤ al / 2 ^ m := Int.ediv_nonneg hal.1 (Int.le_of_lt hp)
      have hs1 : al / 2 ^ m ≤ al := Int.ediv_le_self _ hal.1
      rw [pow_min (by omega), fdiv_pos (by omega), and_bit (by omega), ebit, show IntKind.wrap .u64 (R % 18446744073709551616 * 2) = R % 9223372036854775808 * 2 from by rw [wu]; omega, or_parts (s := 1) (by rfl) (by omega) (by omega) (by omega)]
      omega
    have eR : a / 2 ^ m = 2 * Q * (bh * 18446744073709551616 + bl) + (2 * R + a / 2 ^ m % 2) := by
      rw [Int.mul_assoc]; omega
    have hR' : 0 ≤ 2 * R + a / 2 ^ m % 2 ∧ 2 * R + a / 2 ^ m % 2 < 2 * (bh * 18446744073709551616 + bl) := by omega
    have hround : R72_0 (al, bh, bl, Q * 2 ^ (m + 1), R / 18446744073709551616, R % 18446744073709551616, (m : Int), ()) =
        if bh * 18446744073709551616 + bl ≤ 2 * R + a / 2 ^ m % 2 then some (.inl (al, bh, bl, (2 * Q + 1) * 2 ^ m, (2 * R + a / 2 ^ m % 2 - (bh * 18446744073709551616 + bl)) / 18446744073709551616, (2 * R + a / 2 ^ m % 2 - (bh * 18446744073709551616 + bl)) % 18446744073709551616, (m : Int) - 1, ()))
        else some (.inl (al, bh, bl, 2 * Q * 2 ^ m, (2 * R + a / 2 ^ m % 2) / 18446744073709551616, (2 * R + a / 2 ^ m % 2) % 18446744073709551616, (m : Int) - 1, ())) := by
      unfold R72_0 Q72_0
      simp only []
      rw [bif_t (decide_eq_true (by omega))]
      rw [bif_t (decide_eq_true (show (0 : Int) ≤ (m : Int) by omega))]
      simp only [Option.bind_some]
      rw [o1, o2, wsi (n := (m : Int) - 1) (by omega)]
      generalize hRe : 2 * R + a / 2 ^ m % 2 = R' at *
      have hno : Q * 2 ^ (m + 1) = 2 * Q * 2 ^ m := by rw [hp2, Int.mul_comm 2 Q, Int.mul_assoc]
      have sub : bh * 18446744073709551616 + bl ≤ R' → (Option.bind (α := Int × Int × Unit) ((cSub64 (τ := τ)).f (R' % 18446744073709551616, bl, 0, ())) fun ⟨y3_0, ⟨y3_1, ()⟩⟩ => (Option.bind (α := Int × Int × Unit) ((cSub64 (τ := τ)).f (R' / 18446744073709551616, bh, y3_1, ())) fun ⟨y4_0, ⟨y4_1, ()⟩⟩ => (some () : Option Unit).bind fun () => (some (.inl (al, bh, bl, IntKind.wrap .u64 ↑(BitVec.toNat (BitVec.ofInt 64 (Q * 2 ^ (m + 1)) ||| BitVec.ofInt 64 (IntKind.wrap .u64 (1 * 2 ^ min (Int.toNat (m : Int)) 64)))), y4_0, y3_0, (m : Int) - 1, ())) : Option (LA72_0 ⊕ LB72_0))))
          = some (.inl (al, bh, bl, (2 * Q + 1) * 2 ^ m, (R' - (bh * 18446744073709551616 + bl)) / 18446744073709551616, (R' - (bh * 18446744073709551616 + bl)) % 18446744073709551616, (m : Int) - 1, ())) := by
        intro hle
        have hQm : (2 * Q + 1) * 2 ^ m ≤ 18446744073709551615 := by
          have h1 : (2 * Q + 1) * (bh * 18446744073709551616 + bl) ≤ a / 2 ^ m := by rw [Int.add_mul, Int.one_mul]; omega
          have h2 := Int.mul_le_mul_of_nonneg_right h1 (Int.le_of_lt hp)
          have h3 : a / 2 ^ m * 2 ^ m ≤ a := Int.ediv_mul_le a (by omega)
          rw [Int.mul_right_comm] at h2
          rcases Int.lt_or_le 18446744073709551615 ((2 * Q + 1) * 2 ^ m) with h4 | h4
          · exfalso
            have h5 := Int.mul_le_mul_of_nonneg_right (show 18446744073709551616 ≤ (2 * Q + 1) * 2 ^ m by omega) (show 0 ≤ bh * 18446744073709551616 + bl by omega)
            rw [Int.mul_comm 18446744073709551616] at h5
            omega
          · exact h4
        have hQm2 : (2 * Q + 1) * 2 ^ m = Q * 2 ^ (m + 1) + 2 ^ m := by rw [hp2, Int.add_mul, Int.one_mul, Int.mul_comm 2 Q, Int.mul_assoc]
        have hQ0 : 0 ≤ Q * 2 ^ (m + 1) := Int.mul_nonneg hQ (by omega)
        rw [sub64_f (by omega) hbl (by omega)]
        simp only [Option.bind_some]
        rw [sub64_f (by omega) (by omega) (by omega)]
        simp only [Option.bind_some]
        rw [pow_min (by omega), Int.one_mul, wui (n := 2 ^ m) (by omega), or_parts (s := m + 1) rfl hQ (by omega) (by omega), hQm2]
        have p1 : (R' % 18446744073709551616 - bl - 0) % 18446744073709551616 = (R' - (bh * 18446744073709551616 + bl)) % 18446744073709551616 := by omega
        have p2 : (R' / 18446744073709551616 - bh - -((R' % 18446744073709551616 - bl - 0) / 18446744073709551616)) % 18446744073709551616 = (R' - (bh * 18446744073709551616 + bl)) / 18446744073709551616 := by omega
        rw [p2, p1]
      by_cases g1 : R' / 18446744073709551616 > bh
      · rw [bif_t (decide_eq_true g1), if_pos (by omega)]
        exact sub (by omega)
      · rw [bif_f (decide_eq_false g1)]
        by_cases g2 : R' / 18446744073709551616 = bh
        · rw [bif_t (show (R' / 18446744073709551616 == bh) = true from by simpa using g2)]
          by_cases g3 : R' % 18446744073709551616 ≥ bl
          · rw [bif_t (decide_eq_true g3), if_pos (by omega)]
            exact sub (by omega)
          · rw [bif_f (decide_eq_false g3), if_neg (by omega), hno]
        · rw [bif_f (show (R' / 18446744073709551616 == bh) = false from by simpa using g2), if_neg (by omega), hno]
    rw [itr_succ, show (((m + 1 : Nat) : Int) - 1) = (m : Int) from by omega, hround]
    by_cases hle : bh * 18446744073709551616 + bl ≤ 2 * R + a / 2 ^ m % 2
    · rw [if_pos hle]
      exact ih (2 * Q + 1) (2 * R + a / 2 ^ m % 2 - (bh * 18446744073709551616 + bl)) (by omega) (by rw [Int.add_mul, Int.one_mul]; omega) (by omega) (by omega)
    · rw [if_neg hle]
      exact ih (2 * Q) (2 * R + a / 2 ^ m % 2) (by omega) eR (by omega) (by omega)
theorem wquoRem {ah al bh bl : Int} (h1 : 0 ≤ ah ∧ ah ≤ 18446744073709551615) (h2 : 0 ≤ al ∧ al ≤ 18446744073709551615) (h3 : 0 ≤ bh ∧ bh ≤ 18446744073709551615) (h4 : 0 ≤ bl ∧ bl ≤ 18446744073709551615)
    (hB : 1 ≤ bh * 18446744073709551616 + bl ∧ bh * 18446744073709551616 + bl ≤ 170141183460469231731687303715884105728) :
    N72 (ah, al, bh, bl, ()) = some ((ah * 18446744073709551616 + al) / (bh * 18446744073709551616 + bl) / 18446744073709551616, (ah * 18446744073709551616 + al) / (bh * 18446744073709551616 + bl) % 18446744073709551616,
      (ah * 18446744073709551616 + al) % (bh * 18446744073709551616 + bl) / 18446744073709551616, (ah * 18446744073709551616 + al) % (bh * 18446744073709551616 + bl) % 18446744073709551616, ()) := by
  unfold N72 M72
  simp only []
  by_cases h0 : bh = 0
  · rw [bif_t (show (bh == 0) = true from by simpa using h0), bif_t (show (!bl == 0) = true from by simp; omega)]
    simp only [Option.bind_some]
    rw [tmod_pos h1.1, tdiv_pos h1.1]
    have r0 := Int.emod_nonneg ah (show bl ≠ 0 by omega)
    have r1 := Int.emod_lt_of_pos ah (show 0 < bl by omega)
    have q0 : 0 ≤ ah / bl := Int.ediv_nonneg h1.1 (by omega)
    have q1 : ah / bl ≤ ah := Int.ediv_le_self _ h1.1
    have e := Int.mul_ediv_add_emod ah bl
    rw [Int.mul_comm] at e
    rw [wDiv64 ⟨r0, r1⟩ h4.2 h2]
    simp only [Option.bind_some]
    rw [wui (n := ah / bl) (by omega)]
    generalize ah % bl = r at *
    generalize ah / bl = q at *
    have f := Int.mul_ediv_add_emod (r * 18446744073709551616 + al) bl
    have f0 := Int.emod_nonneg (r * 18446744073709551616 + al) (show bl ≠ 0 by omega)
    have f1 := Int.emod_lt_of_pos (r * 18446744073709551616 + al) (show 0 < bl by omega)
    have g0 : 0 ≤ (r * 18446744073709551616 + al) / bl := Int.ediv_nonneg (by omega) (by omega)
    have g1 : (r * 18446744073709551616 + al) / bl < 18446744073709551616 := Int.ediv_lt_of_lt_mul (by omega) (by omega)
    rw [Int.mul_comm] at f
    generalize (r * 18446744073709551616 + al) / bl = t at *
    generalize (r * 18446744073709551616 + al) % bl = u at *
    have e0 : ah * 18446744073709551616 + al = (q * 18446744073709551616 + t) * (bh * 18446744073709551616 + bl) + u := by
      rw [h0, Int.zero_mul, Int.zero_add, Int.add_mul, Int.mul_right_comm]
      omega
    obtain ⟨d1, d2⟩ := div_mod_of (by omega) e0 ⟨f0, by omega⟩
    rw [d1, d2]
    congr 2
    · omega
    · congr 1
      · omega
      · congr 1
        · omega
        · congr 1; omega
  · rw [bif_f (show (bh == 0) = false from by simpa using h0)]
    have h := qr_l0 (ah * 18446744073709551616 + al) al bh bl h3.1 h4 hB.2 (by omega) h2 (by omega) (by omega) (by omega) 64 0 ah (by omega) (by rw [show (2 : Int) ^ 64 = 18446744073709551616 from by decide]; omega) (by omega) (by omega)
    rw [Int.zero_mul, show ah / 18446744073709551616 = 0 from by omega, show ah % 18446744073709551616 = ah from by omega] at h
    rw [show ((64 : Nat) : Int) - 1 = 63 from by decide] at h
    rw [itrs_of h (by omega)]
    simp only [Option.bind_some]
    have q1 : (ah * 18446744073709551616 + al) / (bh * 18446744073709551616 + bl) < 18446744073709551616 := Int.ediv_lt_of_lt_mul (by omega) (by omega)
    have q0 : 0 ≤ (ah * 18446744073709551616 + al) / (bh * 18446744073709551616 + bl) := Int.ediv_nonneg (by omega) (by omega)
    congr 2
    · omega
    · congr 1
      omega
end Go.Proofs.Ytgdnleanagclaaa.E
namespace Go.Proofs.Ytgdnleanagclaaa.E
open Go
set_option linter.unusedVariables false
set_option maxRecDepth 100000
def qv (A B : Int) : Int := if (!(decide (A < 0) == decide (B < 0))) = true then -(wabs A / wabs B) else wabs A / wabs B
def rv (A B : Int) : Int := if decide (A < 0) = true then -(wabs A % wabs B) else wabs A % wabs B
def qrans (A B : Int) : (Int × Int) × (Int × Int) × Int × Unit :=
  if B = 0 then ((0, 0), (0, 0), 20, ()) else if inR (qv A B) then ((qv A B / 18446744073709551616, qv A B % 18446744073709551616), (rv A B / 18446744073709551616, rv A B % 18446744073709551616), 0, ()) else ((0, 0), (0, 0), 10, ())
theorem rv_in {A B : Int} (hA : wabs A ≤ 170141183460469231731687303715884105728) (hB : wabs B ≤ 170141183460469231731687303715884105728) (h0 : B ≠ 0) : inR (rv A B) := by
  have b0 : 0 < wabs B := by unfold wabs; split <;> omega
  have r0 := Int.emod_nonneg (wabs A) (show wabs B ≠ 0 by omega)
  have r1 := Int.emod_lt_of_pos (wabs A) b0
  unfold inR rv
  split <;> omega
theorem wv_zero {h l : Int} (b : WB h l) : wv h l = 0 ↔ h = 0 ∧ l = 0 := by unfold WB at b; unfold wv; omega
theorem neg_iff {h l : Int} (b : WB h l) : decide (h < 0) = decide (wv h l < 0) := by
  rw [decide_eq_decide]
  unfold WB at b
  unfold wv
  omega
theorem wQuoRem {a0 a1 b0 b1 : Int} (ha : WB a0 a1) (hb : WB b0 b1) : N70 ((a0, a1), (b0, b1), ()) = some (qrans (wv a0 a1) (wv b0 b1)) := by
  unfold N70 M70
  simp only []
  by_cases h0 : wv b0 b1 = 0
  · obtain ⟨e1, e2⟩ := (wv_zero hb).1 h0
    rw [bif_t (by rw [e1, e2]; rfl)]
    unfold qrans
    rw [if_pos h0]
  · rw [bif_f (by rw [Bool.and_eq_false_iff]; have := (not_congr (wv_zero hb)).1 h0; simp; omega)]
    have hA := wabs_in ha
    have hB := wabs_in hb
    have b0' : 0 < wabs (wv b0 b1) := by unfold wabs; split <;> omega
    rw [wAbs ha]
    simp only [Option.bind_some]
    rw [wAbs hb]
    simp only [Option.bind_some]
    rw [wquoRem (by omega) (by omega) (by omega) (by omega) (by omega)]
    simp only [Option.bind_some]
    rw [show wabs (wv a0 a1) / 18446744073709551616 * 18446744073709551616 + wabs (wv a0 a1) % 18446744073709551616 = wabs (wv a0 a1) from by omega, show wabs (wv b0 b1) / 18446744073709551616 * 18446744073709551616 + wabs (wv b0 b1) % 18446744073709551616 = wabs (wv b0 b1) from by omega]
    have r0 := Int.emod_nonneg (wabs (wv a0 a1)) (show wabs (wv b0 b1) ≠ 0 by omega)
    have r1 := Int.emod_lt_of_pos (wabs (wv a0 a1)) b0'
    have q0 : 0 ≤ wabs (wv a0 a1) / wabs (wv b0 b1) := Int.ediv_nonneg hA.1 (by omega)
    have q1 : wabs (wv a0 a1) / wabs (wv b0 b1) ≤ wabs (wv a0 a1) := Int.ediv_le_self _ hA.1
    have hr := rv_in hA.2 hB.2 h0
    rw [wJoin _ (by omega) (by omega), wJoin _ (by omega) (by omega)]
    simp only [Option.bind_some]
    unfold qrans
    rw [if_neg h0]
    have hq : (if (!decide (a0 < 0) == decide (b0 < 0)) = true then -(wabs (wv a0 a1) / wabs (wv b0 b1) / 18446744073709551616 * 18446744073709551616 + wabs (wv a0 a1) / wabs (wv b0 b1) % 18446744073709551616) else wabs (wv a0 a1) / wabs (wv b0 b1) / 18446744073709551616 * 18446744073709551616 + wabs (wv a0 a1) / wabs (wv b0 b1) % 18446744073709551616) = qv (wv a0 a1) (wv b0 b1) := by
      rw [neg_iff ha, neg_iff hb, show wabs (wv a0 a1) / wabs (wv b0 b1) / 18446744073709551616 * 18446744073709551616 + wabs (wv a0 a1) / wabs (wv b0 b1) % 18446744073709551616 = wabs (wv a0 a1) / wabs (wv b0 b1) from by omega]
      rfl
    have hr2 : (if decide (a0 < 0) = true then -(wabs (wv a0 a1) % wabs (wv b0 b1) / 18446744073709551616 * 18446744073709551616 + wabs (wv a0 a1) % wabs (wv b0 b1) % 18446744073709551616) else wabs (wv a0 a1) % wabs (wv b0 b1) / 18446744073709551616 * 18446744073709551616 + wabs (wv a0 a1) % wabs (wv b0 b1) % 18446744073709551616) = rv (wv a0 a1) (wv b0 b1) := by
      rw [neg_iff ha, show wabs (wv a0 a1) % wabs (wv b0 b1) / 18446744073709551616 * 18446744073709551616 + wabs (wv a0 a1) % wabs (wv b0 b1) % 18446744073709551616 = wabs (wv a0 a1) % wabs (wv b0 b1) from by omega]
      rfl
    rw [hq, hr2]
    by_cases hi : inR (qv (wv a0 a1) (wv b0 b1))
    · rw [if_pos hi, wans_in hi, wans_in hr]
      rfl
    · rw [if_neg hi, wans_out hi]
      rfl
end Go.Proofs.Ytgdnleanagclaaa.E
namespace Go.Proofs.Ytgdnleanagclaaa.E
open Go
set_option linter.unusedVariables false
set_option maxRecDepth 100000
/-- Of a quotient that isn't whole: is the next one further from 0 taken? -/
def far (A B mode : Int) : Bool :=
  bif mode == 0 then (!(decide (A < 0) == decide (B < 0))) else bif mode == 1 then (!(!(decide (A < 0) == decide (B < 0)))) else bif mode == 2 then false
  else bif decide (wabs A % wabs B = wabs B - wabs A % wabs B) then (bif mode == 3 then true else decide (qv A B % 18446744073709551616 % 2 = 1)) else decide (wabs A % wabs B ≥ wabs B - wabs A % wabs B)
def divans (A B mode : Int) : (Int × Int) × Int × Unit :=
  if mode < 0 then ((0, 0), 1, ()) else if mode > 4 then ((0, 0), 1, ()) else if B = 0 then ((0, 0), 20, ()) else if inR (qv A B) then
    (if rv A B = 0 then ((qv A B / 18446744073709551616, qv A B % 18446744073709551616), 0, ()) else bif far A B mode then wans (if (!(decide (A < 0) == decide (B < 0))) = true then qv A B - 1 else qv A B + 1) else ((qv A B / 18446744073709551616, qv A B % 18446744073709551616), 0, ()))
  else ((0, 0), 10, ())
theorem wabs_rv {A B : Int} (h0 : B ≠ 0) : wabs (rv A B) = wabs A % wabs B := by
  have b0 : 0 < wabs B := by unfold wabs; split <;> omega
  have r0 := Int.emod_nonneg (wabs A) (show wabs B ≠ 0 by omega)
  unfold rv
  generalize wabs A % wabs B = m at *
  unfold wabs
  split <;> split <;> omega
theorem sign_rv {A B : Int} (h0 : B ≠ 0) (hr : rv A B ≠ 0) : decide (rv A B < 0) = decide (A < 0) := by
  have b0 : 0 < wabs B := by unfold wabs; split <;> omega
  have r0 := Int.emod_nonneg (wabs A) (show wabs B ≠ 0 by omega)
  rw [decide_eq_decide]
  unfold rv at *
  split at hr <;> rename_i h <;> simp only [decide_eq_true_eq] at h
  · rw [if_pos (by simpa using h)]; omega
  · rw [if_neg (by simpa using h)]; omega
section
variable {A B b0 b1 mode : Int} (hb : WB b0 b1) (hB : wv b0 b1 = B) (hA : wabs A ≤ 170141183460469231731687303715884105728) (h0 : B ≠ 0) (hr : rv A B ≠ 0)
include hb hB hA h0 hr
theorem wAway : N71 ((qv A B / 18446744073709551616, qv A B % 18446744073709551616), (rv A B / 18446744073709551616, rv A B % 18446744073709551616), (b0, b1), mode, ()) = some (far A B mode, ()) := by
  have hB2 := wabs_in hb
  rw [hB] at hB2
  have hri := rv_in hA hB2.2 h0
  have wr := WB_in hri
  have hb0 : 0 < wabs B := by unfold wabs; split <;> omega
  have r0 := Int.emod_nonneg (wabs A) (show wabs B ≠ 0 by omega)
  have r1 := Int.emod_lt_of_pos (wabs A) hb0
  have e1 : decide (rv A B / 18446744073709551616 < 0) = decide (A < 0) := by rw [neg_iff wr, wv_of, sign_rv h0 hr]
  have e2 : decide (b0 < 0) = decide (B < 0) := by rw [neg_iff hb, hB]
  unfold N71 M71 far
  simp only []
  rw [e1, e2]
  cases m0 : mode == 0 with
  | true => rfl
  | false =>
  cases m1 : mode == 1 with
  | true => rfl
  | false =>
  cases m2 : mode == 2 with
  | true => rfl
  | false =>
  simp only [cond_false]
  rw [wAbs wr, wv_of, wabs_rv h0]
  simp only [Option.bind_some]
  rw [wAbs hb, hB]
  simp only [Option.bind_some]
  generalize wabs A % wabs B = r at *
  generalize wabs B = b at *
  rw [sub64_f (by omega) (by omega) (by omega)]
  simp only [Option.bind_some]
  rw [sub64_f (by omega) (by omega) (by omega)]
  simp only [Option.bind_some]
  have hq : 0 ≤ qv A B % 18446744073709551616 ∧ qv A B % 18446744073709551616 ≤ 18446744073709551615 := by omega
  rw [and_bit hq]
  have t0 : (b % 18446744073709551616 - r % 18446744073709551616 - 0) % 18446744073709551616 = (b - r) % 18446744073709551616 := by omega
  have t1 : (b / 18446744073709551616 - r / 18446744073709551616 - -((b % 18446744073709551616 - r % 18446744073709551616 - 0) / 18446744073709551616)) % 18446744073709551616 = (b - r) / 18446744073709551616 := by omega
  rw [t0, t1]
  have hqd : (qv A B % 18446744073709551616 % 2 == 1) = decide (qv A B % 18446744073709551616 % 2 = 1) := rfl
  rw [hqd]
  generalize decide (qv A B % 18446744073709551616 % 2 = 1) = od
  simp only [bif_p, bif_eq]
  have hw : (if mode = 3 then (some (true, ()) : Option B71) else some (od, ())) = some (if mode = 3 then true else od, ()) := by split <;> rfl
  simp only [hw]
  by_cases k1 : r / 18446744073709551616 > (b - r) / 18446744073709551616
  · rw [if_pos k1, if_neg (by omega), decide_eq_true (by omega)]
  · rw [if_neg k1]
    by_cases k2 : r / 18446744073709551616 = (b - r) / 18446744073709551616
    · rw [if_pos k2]
      by_cases k3 : r % 18446744073709551616 > (b - r) % 18446744073709551616
      · rw [if_pos k3, if_neg (by omega), decide_eq_true (by omega)]
      · rw [if_neg k3, if_pos k2]
        by_cases k4 : r % 18446744073709551616 = (b - r) % 18446744073709551616
        · rw [if_pos k4, if_pos (show r = b - r by omega)]
        · rw [if_neg k4, if_neg (by omega), decide_eq_false (by omega)]
    · rw [if_neg k2, if_neg k2, if_neg (by omega), decide_eq_false (by omega)]
end
theorem wDiv {a0 a1 b0 b1 mode : Int} (ha : WB a0 a1) (hb : WB b0 b1) : N68 ((a0, a1), (b0, b1), mode, ()) = some (divans (wv a0 a1) (wv b0 b1) mode) := by
  unfold N68 M68 divans
  simp only []
  by_cases m0 : mode < 0
  · rw [bif_t (decide_eq_true m0), if_pos m0]
  rw [bif_f (decide_eq_false m0), if_neg m0]
  by_cases m4 : mode > 4
  · rw [bif_t (decide_eq_true m4), if_pos m4]
  rw [bif_f (decide_eq_false m4), if_neg m4, wQuoRem ha hb]
  simp only [Option.bind_some]
  unfold qrans
  by_cases h0 : wv b0 b1 = 0
  · rw [if_pos h0, if_pos h0]
    rfl
  rw [if_neg h0, if_neg h0]
  by_cases hq : inR (qv (wv a0 a1) (wv b0 b1))
  · rw [if_pos hq, if_pos hq]
    simp only [bne_self_eq_false, cond_false]
    have hri := rv_in (wabs_in ha).2 (wabs_in hb).2 h0
    by_cases hr : rv (wv a0 a1) (wv b0 b1) = 0
    · rw [if_pos hr, hr]
      rfl
    · rw [if_neg hr, bif_f (by rw [Bool.and_eq_false_iff]; simp; omega), wAway hb rfl (wabs_in ha).2 h0 hr]
      simp only [Option.bind_some, bif_not]
      cases hf : far (wv a0 a1) (wv b0 b1) mode with
      | false => rfl
      | true =>
        simp only [cond_true]
        rw [neg_iff ha, neg_iff hb, wOf (by omega), show (1 : Int) / 18446744073709551616 = 0 from rfl, show (1 : Int) % 18446744073709551616 = 1 from rfl]
        simp only [Option.bind_some]
        rw [wSub (WB_in hq) (show WB 0 1 from by unfold WB; omega), wAdd (WB_in hq) (show WB 0 1 from by unfold WB; omega), wv_of, show wv 0 1 = 1 from rfl]
        cases (decide (wv a0 a1 < 0) == decide (wv b0 b1 < 0)) <;> rfl
  · rw [if_neg hq, if_neg hq]
    rfl
end Go.Proofs.Ytgdnleanagclaaa.E
namespace Go.Proofs.Ytgdnleanagclaaa.E
open Go
set_option linter.unusedVariables false
set_option maxRecDepth 100000
/-- A line whose numbers stay narrow. -/
structure Narrow (A B C s : Int) : Prop where
  s1 : 1 ≤ s
  s2 : s ≤ 1000000000000
  n : wabs A + wabs B * 1099511627776 + wabs C * blk 1099511627776 s ≤ 85070591730234615865843651857942052864
theorem wabs_le {x n : Int} (h : wabs x ≤ n) : -n ≤ x ∧ x ≤ n := by unfold wabs at h; split at h <;> omega
theorem blkM {s : Int} (h : 1 ≤ s) : 1 ≤ blk 1099511627776 s ∧ blk 1099511627776 s ≤ 1099511627776 := by
  obtain ⟨a, b⟩ := blk_of (q := 1099511627776) h
  refine ⟨?_, ?_⟩
  · by_cases h2 : 1 ≤ blk 1099511627776 s
    · exact h2
    · have := Int.mul_le_mul_of_nonneg_right (show blk 1099511627776 s ≤ 0 by omega) (show 0 ≤ s by omega)
      omega
  · by_cases h2 : blk 1099511627776 s ≤ 1099511627776
    · exact h2
    · have := Int.mul_le_mul_of_nonneg_left h (show 0 ≤ blk 1099511627776 s - 1 by omega)
      omega
theorem Narrow.parts {A B C s q : Int} (h : Narrow A B C s) (h0 : 0 ≤ q) (h1 : q ≤ 1099511627776) :
    wabs (B * q) ≤ wabs B * 1099511627776 ∧ wabs (C * blk q s) ≤ wabs C * blk 1099511627776 s ∧ 0 ≤ wabs B * 1099511627776 ∧ 0 ≤ wabs C * blk 1099511627776 s := by
  obtain ⟨s1, s2, n⟩ := h
  have b0 := wabs_nonneg B
  have c0 := wabs_nonneg C
  have k0 : 0 ≤ blk q s := (blk_in (fitB_iff.2 ⟨s1, s2, h0, h1⟩)).1
  have k1 := blk_mono s1 h1
  have e1 : wabs q = q := by unfold wabs; omega
  have e2 : wabs (blk q s) = blk q s := by unfold wabs; omega
  rw [wabs_mul, wabs_mul, e1, e2]
  exact ⟨Int.mul_le_mul_of_nonneg_left h1 b0, Int.mul_le_mul_of_nonneg_left k1 c0, by omega, Int.mul_nonneg c0 (by omega)⟩
theorem Narrow.rng {A B C s q : Int} (h : Narrow A B C s) (h0 : 0 ≤ q) (h1 : q ≤ 1099511627776) : -85070591730234615865843651857942052864 ≤ lv A B C s q ∧ lv A B C s q ≤ 85070591730234615865843651857942052864 := by
  obtain ⟨p1, p2, p3, p4⟩ := h.parts h0 h1
  have n := h.n
  have a := wabs_le (Int.le_refl (wabs A))
  have b := wabs_le p1
  have c := wabs_le p2
  unfold lv
  omega
theorem Narrow.val {A B C s q : Int} (h : Narrow A B C s) (h0 : 0 ≤ q) (h1 : q ≤ 1099511627776) : valans A B C s q = ((lv A B C s q / 18446744073709551616, lv A B C s q % 18446744073709551616), 0, ()) := by
  obtain ⟨p1, p2, p3, p4⟩ := h.parts h0 h1
  have n := h.n
  have a := wabs_le (Int.le_refl (wabs A))
  have a0 := wabs_nonneg A
  have b := wabs_le p1
  have c := wabs_le p2
  have v := h.rng h0 h1
  unfold valans
  rw [if_pos (fitB_iff.2 ⟨h.s1, h.s2, h0, h1⟩), if_pos (show inR (B * q) from by unfold inR; omega), if_pos (show inR (C * blk q s) from by unfold inR; omega), if_pos (show inR (A + B * q) from by unfold inR; omega)]
  exact wans_in (v := lv A B C s q) (by omega)
theorem Narrow.drift {A B C s : Int} (h : Narrow A B C s) : inR (B * s) ∧ inR (B * s + C) := by
  obtain ⟨s1, s2, n⟩ := h
  have a0 := wabs_nonneg A
  have b0 := wabs_nonneg B
  have c0 := wabs_nonneg C
  have k := blkM s1
  have e1 : wabs s = s := by unfold wabs; omega
  have h1 : wabs (B * s) ≤ wabs B * 1099511627776 := by rw [wabs_mul, e1]; exact Int.mul_le_mul_of_nonneg_left (by omega) b0
  have h2 : wabs C * 1 ≤ wabs C * blk 1099511627776 s := Int.mul_le_mul_of_nonneg_left k.1 c0
  have b := wabs_le h1
  have c := wabs_le (Int.le_refl (wabs C))
  unfold inR
  omega
theorem span_narrow {A B C s q : Int} (hf : fitB s q = true) (h0 : (spanans A B C s).2.1 = 0) (hc : ¬ wv (spanans A B C s).1.1 (spanans A B C s).1.2 > 85070591730234615865843651857942052864) : Narrow A B C s := by
  obtain ⟨s1, s2, q0, q1⟩ := fitB_iff.1 hf
  unfold spanans at h0 hc
  rw [if_pos (fitB_iff.2 ⟨s1, s2, by omega, by omega⟩)] at h0 hc
  by_cases i1 : inR (wabs A)
  rotate_left
  · rw [if_neg i1] at h0; cases h0
  rw [if_pos i1] at h0 hc
  by_cases i2 : inR (wabs B)
  rotate_left
  · rw [if_neg i2] at h0; cases h0
  rw [if_pos i2] at h0 hc
  by_cases i3 : inR (wabs C)
  rotate_left
  · rw [if_neg i3] at h0; cases h0
  rw [if_pos i3] at h0 hc
  unfold valans at h0 hc
  rw [if_pos (fitB_iff.2 ⟨s1, s2, by omega, by omega⟩)] at h0 hc
  by_cases i4 : inR (wabs B * 1099511627776)
  rotate_left
  · rw [if_neg i4] at h0; cases h0
  rw [if_pos i4] at h0 hc
  by_cases i5 : inR (wabs C * blk 1099511627776 s)
  rotate_left
  · rw [if_neg i5] at h0; cases h0
  rw [if_pos i5] at h0 hc
  by_cases i6 : inR (wabs A + wabs B * 1099511627776)
  rotate_left
  · rw [if_neg i6] at h0; cases h0
  rw [if_pos i6] at h0 hc
  by_cases i7 : inR (wabs A + wabs B * 1099511627776 + wabs C * blk 1099511627776 s)
  rotate_left
  · rw [wans_out i7] at h0; cases h0
  rw [wans_in i7] at hc
  simp only [wv_of] at hc
  exact ⟨s1, s2, by omega⟩
theorem wInt {h l : Int} (b : WB h l) : N69 ((h, l), ()) = some (if -9223372036854775808 ≤ wv h l ∧ wv h l ≤ 9223372036854775807 then (wv h l, true, ()) else (0, false, ())) := by
  unfold WB at b
  unfold N69 M69 wv
  simp only [bif_ne, ws]
  rw [fdiv_pos (by omega)]
  by_cases k : -9223372036854775808 ≤ h * 18446744073709551616 + l ∧ h * 18446744073709551616 + l ≤ 9223372036854775807
  · rw [if_pos k, if_pos (by omega)]
    congr 2
    omega
  · rw [if_neg k, if_neg (by omega)]
theorem cmpv_pos (v : Int) : decide (cmpv v 0 > 0) = decide (v > 0) := by
  rcases cmpv_cases v 0 with ⟨h, e⟩ | ⟨h, e⟩ | ⟨h, e⟩ <;> rw [e, decide_eq_decide] <;> omega
theorem cmpv_ge (v : Int) : decide (cmpv v 0 ≥ 0) = decide (v ≥ 0) := by
  rcases cmpv_cases v 0 with ⟨h, e⟩ | ⟨h, e⟩ | ⟨h, e⟩ <;> rw [e, decide_eq_decide] <;> omega
theorem cmpv_le (v : Int) : decide (cmpv v 0 ≤ 0) = decide (v ≤ 0) := by
  rcases cmpv_cases v 0 with ⟨h, e⟩ | ⟨h, e⟩ | ⟨h, e⟩ <;> rw [e, decide_eq_decide] <;> omega
theorem div_floor {A B : Int} (hA : 0 ≤ A) (hB : 0 < B) (hr : inR (A / B)) : divans A B 0 = ((A / B / 18446744073709551616, A / B % 18446744073709551616), 0, ()) := by
  have hq : qv A B = A / B := by
    unfold qv wabs
    rw [decide_eq_false (show ¬ A < 0 by omega), decide_eq_false (show ¬ B < 0 by omega), if_neg (by decide), if_neg (by omega), if_neg (by omega)]
  have hf : far A B 0 = false := by
    unfold far
    rw [decide_eq_false (show ¬ A < 0 by omega), decide_eq_false (show ¬ B < 0 by omega)]
    rfl
  unfold divans
  rw [if_neg (by omega), if_neg (by omega), if_neg (by omega), hq, if_pos hr, hf]
  split <;> rfl
theorem div_ceil {A B : Int} (hA : A < 0) (hB : B < 0) (hr : inR (-A / -B)) (hu : inR (up (-A) (-B))) : divans A B 1 = ((up (-A) (-B) / 18446744073709551616, up (-A) (-B) % 18446744073709551616), 0, ()) := by
  have hq : qv A B = -A / -B := by
    unfold qv wabs
    rw [decide_eq_true hA, decide_eq_true hB, if_neg (by decide), if_pos hA, if_pos hB]
  have hv : rv A B = -(-A % -B) := by
    unfold rv wabs
    rw [decide_eq_true hA, if_pos rfl, if_pos hA, if_pos hB]
  have hf : far A B 1 = true := by
    unfold far
    rw [decide_eq_true hA, decide_eq_true hB]
    rfl
  unfold divans
  rw [if_neg (by omega), if_neg (by omega), if_neg (by omega), hq, if_pos hr, hf, hv, decide_eq_true hA, decide_eq_true hB, if_neg (show ¬ (!(true == true)) = true by decide), cond_true]
  unfold up at *
  by_cases h0 : -A % -B = 0
  · rw [if_pos (by omega), if_pos h0]
  · rw [if_neg (by omega)]
    rw [if_neg h0] at hu ⊢
    exact wans_in hu
theorem int_ok {K most : Int} (hK : 0 ≤ K) (hm : most ≤ 4611686018427387904) {v d : Int} {w : Bool} (h1 : decide (v + K * d > 0) ≠ w) (h2 : ∀ n, 0 ≤ n → n < K → decide (v + n * d > 0) = w) :
    ∃ k ok, ((some (if -9223372036854775808 ≤ K ∧ K ≤ 9223372036854775807 then (K, true, ()) else (0, false, ()))).bind fun (x : Int × Bool × Unit) => match x with | (a, b, ()) => bif b then some (a, decide (a ≤ most), ()) else some (a, false, ())) = some (k, ok, ()) ∧ Steps v d most w k ok := by
  by_cases h : -9223372036854775808 ≤ K ∧ K ≤ 9223372036854775807
  · rw [if_pos h]
    refine ⟨K, decide (K ≤ most), rfl, steps_first hK h1 h2 (fun e => ⟨rfl, of_decide_eq_true e⟩) (fun e => ?_)⟩
    have := of_decide_eq_false e
    omega
  · rw [if_neg h]
    exact ⟨0, false, rfl, steps_first hK h1 h2 (fun e => by cases e) (fun e => by omega)⟩
theorem lSteps {v d most s : Int} {l : (Int × Int) × (Int × Int) × (Int × Int)} {w : Bool} (hv : -85070591730234615865843651857942052864 ≤ v ∧ v ≤ 85070591730234615865843651857942052864) (hd : inR d) (hm : 0 ≤ most ∧ most ≤ 4611686018427387904) :
    ∃ k ok, N62 ((l, s, w), (v / 18446744073709551616, v % 18446744073709551616), (d / 18446744073709551616, d % 18446744073709551616), most, ()) = some (k, ok, ()) ∧ Steps v d most w k ok := by
  obtain ⟨⟨l0, l1⟩, ⟨l2, l3⟩, ⟨l4, l5⟩⟩ := l
  have wv' : WB (v / 18446744073709551616) (v % 18446744073709551616) := WB_in (by omega)
  have wd := WB_in hd
  unfold inR at hd
  unfold N62 M62
  simp only []
  rw [wSign wv', wSign wd, wNeg wv', wv_of, wv_of]
  simp only [Option.bind_some]
  rw [cmpv_pos, cmpv_ge, cmpv_le, wans_in (v := -v) (by omega)]
  simp only []
  have wn : WB (-v / 18446744073709551616) (-v % 18446744073709551616) := WB_in (by omega)
  rw [wDiv wn wd, wDiv wn wd, wv_of, wv_of]
  by_cases hst : decide (v > 0) = w
  rotate_left
  · rw [bif_t (show (!(decide (v > 0) == w)) = true from by simpa using hst)]
    exact ⟨0, true, rfl, steps_now hm.1 hst⟩
  rw [bif_f (show (!(decide (v > 0) == w)) = false from by simpa using hst)]
  cases w with
  | true =>
    have h0 := of_decide_eq_true hst
    simp only [cond_true, Bool.not_true, cond_false]
    by_cases hd0 : d ≥ 0
    · rw [bif_t (decide_eq_true hd0)]
      exact ⟨0, false, rfl, steps_never hst (.inl ⟨rfl, hd0⟩)⟩
    rw [bif_f (decide_eq_false hd0)]
    obtain ⟨u0, u1, u2⟩ := up_steps h0 (show d < 0 by omega)
    have hq0 := Int.ediv_nonneg (show 0 ≤ v by omega) (show 0 ≤ -d by omega)
    have hq1 : v / -d ≤ v := Int.ediv_le_self _ (by omega)
    have hu : up v (-d) ≤ v + 1 := by unfold up; split <;> omega
    have e := div_ceil (A := -v) (B := d) (by omega) (by omega) (by rw [Int.neg_neg]; unfold inR; omega) (by rw [Int.neg_neg]; unfold inR; omega)
    rw [Int.neg_neg] at e
    rw [e]
    obtain ⟨⟨x0, x1⟩, x2, ⟨⟩⟩ := divans (-v) d 0
    simp only [Option.bind_some]
    rw [wInt (WB_in (by omega)), wv_of]
    exact int_ok u0 hm.2 u1 u2
  | false =>
    have h0 := of_decide_eq_false hst
    simp only [cond_true, Bool.not_false, cond_false]
    by_cases hd0 : d ≤ 0
    · rw [bif_t (decide_eq_true hd0)]
      exact ⟨0, false, rfl, steps_never hst (.inr ⟨rfl, hd0⟩)⟩
    rw [bif_f (decide_eq_false hd0)]
    obtain ⟨u0, u1, u2⟩ := floor_steps (show v ≤ 0 by omega) (show 0 < d by omega)
    have hq1 : -v / d ≤ -v := Int.ediv_le_self _ (by omega)
    rw [div_floor (A := -v) (B := d) (by omega) (by omega) (by unfold inR; omega)]
    simp only [Option.bind_some]
    rw [wOf (a := 1) (by omega)]
    simp only [Option.bind_some]
    rw [wAdd (WB_in (by omega)) (WB_of (a := 1) (by omega)), wv_of, show wv (1 / 18446744073709551616) (1 % 18446744073709551616) = 1 from rfl, wans_in (v := -v / d + 1) (by omega)]
    simp only [Option.bind_some]
    rw [wInt (WB_in (by omega)), wv_of]
    exact int_ok (by omega) hm.2 u1 u2
end Go.Proofs.Ytgdnleanagclaaa.E
namespace Go.Proofs.Ytgdnleanagclaaa.E
open Go
set_option linter.unusedVariables false
set_option maxRecDepth 100000
abbrev Ln : Type := (Int × Int) × (Int × Int) × (Int × Int)
def lA (l : Ln) : Int := wv l.1.1 l.1.2
def lB (l : Ln) : Int := wv l.2.1.1 l.2.1.2
def lC (l : Ln) : Int := wv l.2.2.1 l.2.2.2
abbrev nar (l : Ln) (s : Int) : Prop := Narrow (lA l) (lB l) (lC l) s
abbrev sta (l : Ln) (s q : Int) : Bool := st (lA l) (lB l) (lC l) s q
abbrev lva (l : Ln) (s q : Int) : Int := lv (lA l) (lB l) (lC l) s q
theorem lAt {l : Ln} {s q : Int} {w : Bool} (hl : LB l) (h : nar l s) (h0 : 0 ≤ q) (h1 : q ≤ 1099511627776) : N36 ((l, s, w), q, ()) = some ((lva l s q / 18446744073709551616, lva l s q % 18446744073709551616), ()) := by
  have e := lValue hl s q
  have e2 := h.val h0 h1
  unfold lA lB lC at e2
  rw [e2] at e
  obtain ⟨⟨a0, a1⟩, ⟨b0, b1⟩, ⟨c0, c1⟩⟩ := l
  unfold N36 M36
  simp only []
  rw [e]
  rfl
theorem lBlock {l : Ln} {s k : Int} {w : Bool} (s1 : 1 ≤ s) (s2 : s ≤ 1000000000000) (k1 : 1 ≤ k) (hk : (k - 1) * s + 1 ≤ 1099511627776) : N39 ((l, s, w), k, ()) = some ((k - 1) * s + 1, (if 1099511627776 < k * s then 1099511627776 else k * s), ()) := by
  obtain ⟨⟨a0, a1⟩, ⟨b0, b1⟩, ⟨c0, c1⟩⟩ := l
  have e : k * s = (k - 1) * s + s := by rw [Int.sub_mul]; omega
  have p := Int.mul_nonneg (show 0 ≤ k - 1 by omega) (show 0 ≤ s by omega)
  have kk : k - 1 ≤ (k - 1) * s := by
    have := Int.mul_le_mul_of_nonneg_left s1 (show 0 ≤ k - 1 by omega)
    omega
  unfold N39 M39
  simp only []
  rw [wsi (n := k - 1) (by omega), wsi (n := (k - 1) * s) (by omega), wsi (n := (k - 1) * s + 1) (by omega), wsi (n := k * s) (by omega)]
/-- The first place from lo to hi at which the state is another one. -/
def Fst (l : Ln) (s : Int) (w : Bool) (lo hi x : Int) (ok : Bool) : Prop :=
  (ok = true → lo ≤ x ∧ x ≤ hi ∧ sta l s x ≠ w ∧ ∀ y, lo ≤ y → y < x → sta l s y = w) ∧ (ok = false → ∀ y, lo ≤ y → y ≤ hi → sta l s y = w)
theorem lWithin {l : Ln} {s lo hi : Int} {w : Bool} (hl : LB l) (h : nar l s) (h0 : 0 ≤ lo) (h2 : hi ≤ 1099511627776) (hl2 : lo ≤ 1099511627777) (hh : 0 ≤ hi) (hb : lo ≤ hi → blk lo s = blk hi s) :
    ∃ x ok, N37 ((l, s, w), lo, hi, ()) = some (x, ok, ()) ∧ Fst l s w lo hi x ok := by
  by_cases hlh : lo > hi
  · refine ⟨0, false, ?_, (fun e => (by cases e)), fun _ y a b => by omega⟩
    obtain ⟨⟨a0, a1⟩, ⟨b0, b1⟩, ⟨c0, c1⟩⟩ := l
    unfold N37 M37
    simp only []
    rw [bif_t (decide_eq_true hlh)]
  · have hb := hb (by omega)
    have hv := h.rng h0 (show lo ≤ 1099511627776 by omega)
    have hB : inR (lB l) := wv_in hl.2.1
    obtain ⟨k, ok, e, hs⟩ := lSteps (l := l) (s := s) (w := w) hv hB (most := hi - lo) (by omega)
    have ha := lAt (w := w) hl h h0 (show lo ≤ 1099511627776 by omega)
    have hstep : ∀ n, 0 ≤ n → n ≤ hi - lo → decide (lva l s lo + n * lB l > 0) = sta l s (lo + n) := fun n n0 n1 => by
      have e1 := blk_mono h.s1 (show lo ≤ lo + n by omega)
      have e2 := blk_mono h.s1 (show lo + n ≤ hi by omega)
      have := lv_in (A := lA l) (B := lB l) (C := lC l) (s := s) (p := lo) (q := lo + n) (by omega)
      unfold sta st
      rw [this, show lo + n - lo = n from by omega]
    have hw : lB l / 18446744073709551616 = l.2.1.1 ∧ lB l % 18446744073709551616 = l.2.1.2 := ⟨wv_hi hl.2.1, wv_lo hl.2.1⟩
    rw [hw.1, hw.2] at e
    refine ⟨IntKind.wrap .i64 (lo + k), ok, ?_, fun eo => ?_, fun eo y y0 y1 => ?_⟩
    · obtain ⟨⟨a0, a1⟩, ⟨b0, b1⟩, ⟨c0, c1⟩⟩ := l
      unfold N37 M37
      simp only []
      rw [bif_f (decide_eq_false hlh), ha]
      simp only [Option.bind_some]
      rw [wsi (n := hi - lo) (by omega), e]
      rfl
    · obtain ⟨k0, k1, k2, k3⟩ := hs.1 eo
      rw [wsi (by omega)]
      refine ⟨by omega, by omega, ?_, fun y y0 y1 => ?_⟩
      · rw [← hstep k k0 k1]
        exact k2
      · rw [show y = lo + (y - lo) from by omega, ← hstep (y - lo) (by omega) (by omega)]
        exact k3 (y - lo) (by omega) (by omega)
    · rw [show y = lo + (y - lo) from by omega, ← hstep (y - lo) (by omega) (by omega)]
      exact hs.2 eo (y - lo) (by omega) (by omega)
def loB (s k : Int) : Int := (k - 1) * s + 1
def hiB (s k : Int) : Int := if 1099511627776 < k * s then 1099511627776 else k * s
theorem lo_hi {s k : Int} (s1 : 1 ≤ s) (hk : loB s k ≤ 1099511627776) : loB s k ≤ hiB s k ∧ blk (loB s k) s = k ∧ blk (hiB s k) s = k ∧ hiB s k ≤ 1099511627776 := by
  have e : k * s = (k - 1) * s + s := by rw [Int.sub_mul]; omega
  unfold loB hiB at *
  refine ⟨by split <;> omega, blk_eq s1 (by omega) (by omega), blk_eq s1 (by split <;> omega) (by split <;> omega), by split <;> omega⟩
theorem loB_pos {s k : Int} (s1 : 1 ≤ s) (k1 : 1 ≤ k) : 1 ≤ loB s k := by
  have p := Int.mul_nonneg (show 0 ≤ k - 1 by omega) (show 0 ≤ s by omega)
  unfold loB
  omega
theorem loB_mono {s k j : Int} (s1 : 1 ≤ s) (h : k ≤ j) : loB s k ≤ loB s j := by
  have := Int.mul_le_mul_of_nonneg_right (show k - 1 ≤ j - 1 by omega) (show 0 ≤ s by omega)
  unfold loB
  omega
theorem hi_mono {s k j : Int} (s1 : 1 ≤ s) (h : k ≤ j) : k * s ≤ j * s := Int.mul_le_mul_of_nonneg_right h (by omega)
theorem loB_last {s k : Int} (s1 : 1 ≤ s) (h : k ≤ blk 1099511627776 s) : loB s k ≤ 1099511627776 := by
  have a := loB_mono s1 h
  have b := (blk_of (q := 1099511627776) s1).1
  unfold loB at *
  omega
theorem whole {s k : Int} (s1 : 1 ≤ s) (h : k ≤ blk 1099511627776 s - 1) : k * s ≤ 1099511627776 ∧ hiB s k = k * s := by
  have a := hi_mono s1 h
  have b := (blk_of (q := 1099511627776) s1).1
  unfold hiB
  exact ⟨by omega, by rw [if_neg (by omega)]⟩
/-- The state is the old one all over a block. -/
def Still (l : Ln) (s : Int) (w : Bool) (i : Int) : Prop := sta l s (loB s i) = w ∧ sta l s (hiB s i) = w
theorem Still.all {l : Ln} {s i y : Int} {w : Bool} (s1 : 1 ≤ s) (hk : loB s i ≤ 1099511627776) (h : Still l s w i) (h1 : loB s i ≤ y) (h2 : y ≤ hiB s i) : sta l s y = w := by
  obtain ⟨a, b, c, d⟩ := lo_hi s1 hk
  exact st_between s1 (b.trans c.symm) h1 h2 h.1 h.2
theorem lAhead {l : Ln} {s k most : Int} {w : Bool} (hl : LB l) (h : nar l s) (k1 : 1 ≤ k) (hk2 : k ≤ 1099511627778) (hm : most ≤ blk 1099511627776 s - 1) :
    ∃ j ok, N38 ((l, s, w), k, most, ()) = some (j, ok, ()) ∧ (ok = true → k ≤ j ∧ j ≤ most ∧ ¬ Still l s w j ∧ ∀ i, k ≤ i → i < j → Still l s w i) ∧ (ok = false → ∀ i, k ≤ i → i ≤ most → Still l s w i) := by
  have hbM := blkM h.s1
  by_cases hkm : k > most
  · refine ⟨0, false, ?_, (fun e => (by cases e)), fun _ i a b => by omega⟩
    obtain ⟨⟨a0, a1⟩, ⟨b0, b1⟩, ⟨c0, c1⟩⟩ := l
    unfold N38 M38
    simp only []
    rw [bif_t (decide_eq_true hkm)]
  have hlo := loB_last h.s1 (show k ≤ blk 1099511627776 s by omega)
  have hlp := loB_pos h.s1 k1
  obtain ⟨wk1, wk2⟩ := whole h.s1 (show k ≤ blk 1099511627776 s - 1 by omega)
  obtain ⟨q1, q2, q3, q4⟩ := lo_hi h.s1 hlo
  have hblock := lBlock (l := l) (w := w) h.s1 h.s2 k1 hlo
  rw [show (k - 1) * s + 1 = loB s k from rfl, show (if 1099511627776 < k * s then 1099511627776 else k * s) = hiB s k from rfl] at hblock
  obtain ⟨d1, d2⟩ := h.drift
  obtain ⟨a, isA, ea, ha⟩ := lSteps (l := l) (s := s) (w := w) (h.rng (show 0 ≤ loB s k by omega) hlo) d2 (most := most - k) (by omega)
  obtain ⟨b, isB, eb, hb⟩ := lSteps (l := l) (s := s) (w := w) (h.rng (show 0 ≤ hiB s k by omega) q4) d2 (most := most - k) (by omega)
  have hfar : ∀ p n, decide (lva l s p + n * (lB l * s + lC l) > 0) = sta l s (p + n * s) := fun p n => by
    unfold sta st
    rw [lv_far h.s1]
  have hL : ∀ n, loB s k + n * s = loB s (k + n) := fun n => by
    unfold loB
    rw [show k + n - 1 = (k - 1) + n from by omega, Int.add_mul]
    omega
  have hH : ∀ n, 0 ≤ n → n ≤ most - k → hiB s k + n * s = hiB s (k + n) := fun n n0 n1 => by
    rw [wk2, (whole h.s1 (show k + n ≤ blk 1099511627776 s - 1 by omega)).2, Int.add_mul]
  have fA : ∀ n, decide (lva l s (loB s k) + n * (lB l * s + lC l) > 0) = sta l s (loB s (k + n)) := fun n => by rw [hfar, hL]
  have fB : ∀ n, 0 ≤ n → n ≤ most - k → decide (lva l s (hiB s k) + n * (lB l * s + lC l) > 0) = sta l s (hiB s (k + n)) := fun n n0 n1 => by rw [hfar, hH n n0 n1]
  have run : ∀ r, (isA = true → isB = true → r = k + (if b < a then b else a)) → (isA = true → isB = false → r = k + a) → (isA = false → r = k + b) → (isA || isB) = true → k ≤ r ∧ r ≤ most ∧ ¬ Still l s w r ∧ ∀ i, k ≤ i → i < r → Still l s w i := by
    intro r r1 r2 r3 hor
    have goA : isA = true → r = k + a → (isB = true → a ≤ b) → k ≤ r ∧ r ≤ most ∧ ¬ Still l s w r ∧ ∀ i, k ≤ i → i < r → Still l s w i := fun hA e hab => by
      obtain ⟨a0, a1, a2, a3⟩ := ha.1 hA
      rw [fA] at a2
      refine ⟨by omega, by omega, fun hs => a2 (by rw [← e]; exact hs.1), fun i i0 i1 => ⟨?_, ?_⟩⟩
      · have := a3 (i - k) (by omega) (by omega)
        rw [fA, show k + (i - k) = i from by omega] at this
        exact this
      · cases hB : isB with
        | true =>
          obtain ⟨b0, b1, b2, b3⟩ := hb.1 hB
          have := hab hB
          have := b3 (i - k) (by omega) (by omega)
          rw [fB _ (by omega) (by omega), show k + (i - k) = i from by omega] at this
          exact this
        | false =>
          have := hb.2 hB (i - k) (by omega) (by omega)
          rw [fB _ (by omega) (by omega), show k + (i - k) = i from by omega] at this
          exact this
    have goB : isB = true → r = k + b → (isA = true → b ≤ a) → k ≤ r ∧ r ≤ most ∧ ¬ Still l s w r ∧ ∀ i, k ≤ i → i < r → Still l s w i := fun hB e hab => by
      obtain ⟨b0, b1, b2, b3⟩ := hb.1 hB
      rw [fB _ b0 b1] at b2
      refine ⟨by omega, by omega, fun hs => b2 (by rw [← e]; exact hs.2), fun i i0 i1 => ⟨?_, ?_⟩⟩
      · cases hA : isA with
        | true =>
          obtain ⟨a0, a1, a2, a3⟩ := ha.1 hA
          have := hab hA
          have := a3 (i - k) (by omega) (by omega)
          rw [fA, show k + (i - k) = i from by omega] at this
          exact this
        | false =>
          have := ha.2 hA (i - k) (by omega) (by omega)
          rw [fA, show k + (i - k) = i from by omega] at this
          exact this
      · have := b3 (i - k) (by omega) (by omega)
        rw [fB _ (by omega) (by omega), show k + (i - k) = i from by omega] at this
        exact this
    cases hA : isA with
    | true =>
      cases hB : isB with
      | true =>
        have e := r1 hA hB
        by_cases hba : b < a
        · rw [if_pos hba] at e
          exact goB hB e (fun _ => by omega)
        · rw [if_neg hba] at e
          exact goA hA e (fun _ => by omega)
      | false => exact goA hA (r2 hA hB) (fun h => by rw [hB] at h; cases h)
    | false =>
      have hB : isB = true := by rw [hA] at hor; simpa using hor
      exact goB hB (r3 hA) (fun h => by rw [hA] at h; cases h)
  have none : isA = false → isB = false → ∀ i, k ≤ i → i ≤ most → Still l s w i := fun hA hB i i0 i1 => by
    have x := ha.2 hA (i - k) (by omega) (by omega)
    have y := hb.2 hB (i - k) (by omega) (by omega)
    rw [fA, show k + (i - k) = i from by omega] at x
    rw [fB _ (by omega) (by omega), show k + (i - k) = i from by omega] at y
    exact ⟨x, y⟩
  have atL := lAt (w := w) hl h (show 0 ≤ loB s k by omega) hlo
  have atH := lAt (w := w) hl h (show 0 ≤ hiB s k by omega) q4
  have sw := wOf (a := s) (by have := h.s1; have := h.s2; omega)
  have mul := wMul hl.2.1 (WB_of (a := s) (by have := h.s1; have := h.s2; omega))
  rw [wv_of, show wv l.2.1.1 l.2.1.2 * s = lB l * s from rfl, wans_in (show inR (lB l * s) from d1)] at mul
  have add := wAdd (WB_in d1) hl.2.2
  rw [wv_of, show lB l * s + wv l.2.2.1 l.2.2.2 = lB l * s + lC l from rfl, wans_in (show inR (lB l * s + lC l) from d2)] at add
  clear hfar hL hH fA fB
  obtain ⟨⟨a0, a1⟩, ⟨b0, b1⟩, ⟨c0, c1⟩⟩ := l
  unfold N38 M38
  simp only []
  rw [bif_f (decide_eq_false hkm), sw]
  simp only [Option.bind_some] at mul add ⊢
  rw [mul]
  simp only [Option.bind_some]
  rw [add]
  simp only [Option.bind_some]
  rw [hblock]
  simp only [Option.bind_some]
  rw [atL]
  simp only [Option.bind_some]
  rw [wsi (n := most - k) (by omega), ea]
  simp only [Option.bind_some]
  rw [atH]
  simp only [Option.bind_some]
  rw [eb]
  simp only [Option.bind_some]
  cases hA : isA with
  | true =>
    cases hB : isB with
    | true =>
      obtain ⟨a0', a1', _, _⟩ := ha.1 hA
      obtain ⟨b0', b1', _, _⟩ := hb.1 hB
      refine ⟨IntKind.wrap .i64 (k + if b < a then b else a), true, rfl, fun _ => run _ (fun _ _ => wsi ?_) (fun _ h => ?_) (fun h => ?_) ?_, fun h => by cases h⟩
      · split <;> omega
      · rw [hB] at h; cases h
      · rw [hA] at h; cases h
      · rw [hA]; rfl
    | false =>
      obtain ⟨a0', a1', _, _⟩ := ha.1 hA
      refine ⟨IntKind.wrap .i64 (k + a), true, rfl, fun _ => run _ (fun _ h => ?_) (fun _ _ => wsi ?_) (fun h => ?_) ?_, fun h => by cases h⟩
      · rw [hB] at h; cases h
      · omega
      · rw [hA] at h; cases h
      · rw [hA]; rfl
  | false =>
    refine ⟨IntKind.wrap .i64 (k + b), isB, rfl, fun h => ?_, fun h => none hA h⟩
    obtain ⟨b0', b1', _, _⟩ := hb.1 h
    refine run _ (fun h => ?_) (fun h => ?_) (fun _ => wsi ?_) ?_
    · rw [hA] at h; cases h
    · rw [hA] at h; cases h
    · omega
    · rw [h]; simp
end Go.Proofs.Ytgdnleanagclaaa.E
namespace Go.Proofs.Ytgdnleanagclaaa.E
open Go
set_option linter.unusedVariables false
set_option maxRecDepth 100000
abbrev Flips (l : Ln) (s q x : Int) : Prop := FlipAt (lA l) (lB l) (lC l) s q x
/-- What lies above q lies in the rest of q's block, or in a block above. -/
theorem places {s q y : Int} (s1 : 1 ≤ s) (q0 : 0 ≤ q) (h : q < y) (hy : y ≤ 1099511627776) : (y ≤ hiB s (blk q s)) ∨ (blk q s < blk y s ∧ blk y s ≤ blk 1099511627776 s ∧ loB s (blk y s) ≤ y ∧ y ≤ hiB s (blk y s)) := by
  have m := blk_mono s1 (show q ≤ y by omega)
  have m2 := blk_mono s1 hy
  obtain ⟨a, b⟩ := blk_of (q := y) s1
  by_cases e : blk y s = blk q s
  · refine .inl ?_
    unfold hiB
    rw [← e]
    split <;> omega
  · refine .inr ⟨by omega, m2, by unfold loB; omega, ?_⟩
    unfold hiB
    split <;> omega
/-- All blocks above are still: the place behind the last. -/
theorem flips_none {l : Ln} {s q : Int} (s1 : 1 ≤ s) (q0 : 0 ≤ q) (q1 : q ≤ 1099511627776) (hk : ∀ y, q < y → y ≤ hiB s (blk q s) → sta l s y = sta l s q) (hi : ∀ i, blk q s < i → i ≤ blk 1099511627776 s → Still l s (sta l s q) i) : Flips l s q 1099511627777 := by
  refine ⟨by omega, Int.le_refl _, fun y y0 y1 => ?_, fun h => by omega⟩
  rcases places s1 q0 y0 (by omega) with h | ⟨h1, h2, h3, h4⟩
  · exact hk y y0 h
  · exact (hi _ h1 h2).all s1 (loB_last s1 h2) h3 h4
/-- The first place within a block, all ahead of it being still. -/
theorem flips_in {l : Ln} {s q j x : Int} (s1 : 1 ≤ s) (q0 : 0 ≤ q) (q1 : q ≤ 1099511627776) (hk : ∀ y, q < y → y ≤ hiB s (blk q s) → sta l s y = sta l s q) (hj : blk q s < j) (hj2 : j ≤ blk 1099511627776 s) (hi : ∀ i, blk q s < i → i < j → Still l s (sta l s q) i) (x0 : loB s j ≤ x) (x1 : x ≤ hiB s j) (hx : sta l s x ≠ sta l s q) (hy : ∀ y, loB s j ≤ y → y < x → sta l s y = sta l s q) : Flips l s q x := by
  have hl := loB_last s1 hj2
  obtain ⟨a, b, c, d⟩ := lo_hi s1 hl
  have hq : q < loB s j := by
    by_cases h : q < loB s j
    · exact h
    · have := blk_mono s1 (show loB s j ≤ q by omega)
      omega
  refine ⟨by omega, by omega, fun y y0 y1 => ?_, fun _ => hx⟩
  rcases places s1 q0 y0 (by omega) with h | ⟨h1, h2, h3, h4⟩
  · exact hk y y0 h
  · by_cases e : blk y s < j
    · exact (hi _ h1 e).all s1 (loB_last s1 h2) h3 h4
    · have := blk_mono s1 (show y ≤ hiB s j by omega)
      have e : blk y s = j := by omega
      rw [e] at h3
      exact hy y h3 y1
theorem fits_zero {s q : Int} (h : fitB s q = true) : fitB s 0 = true := by
  obtain ⟨h1, h2, h3, h4⟩ := fitB_iff.1 h
  exact fitB_iff.2 ⟨h1, h2, by omega, by omega⟩
/-- Is the line narrow enough, as both ask? -/
def spanBad (l : Ln) (s : Int) : Bool := ((spanans (lA l) (lB l) (lC l) s).2.1 != 0) || decide (cmpv (wv (spanans (lA l) (lB l) (lC l) s).1.1 (spanans (lA l) (lB l) (lC l) s).1.2) 85070591730234615865843651857942052864 > 0)
theorem spanBad_narrow {l : Ln} {s q : Int} (hf : fitB s q = true) (h : spanBad l s = false) : nar l s := by
  unfold spanBad at h
  rw [Bool.or_eq_false_iff] at h
  obtain ⟨h1, h2⟩ := h
  have h1 : (spanans (lA l) (lB l) (lC l) s).2.1 = 0 := by simpa using h1
  have h2 := of_decide_eq_false h2
  refine span_narrow hf h1 fun h3 => h2 ?_
  rcases cmpv_cases (wv (spanans (lA l) (lB l) (lC l) s).1.1 (spanans (lA l) (lB l) (lC l) s).1.2) 85070591730234615865843651857942052864 with ⟨h, e⟩ | ⟨h, e⟩ | ⟨h, e⟩ <;> omega
theorem span_WB (A B C s : Int) : WB (spanans A B C s).1.1 (spanans A B C s).1.2 := by
  have z : WB 0 0 := WB_zero
  unfold spanans
  split
  · split
    · split
      · split
        · unfold valans
          split
          · split
            · split
              · split
                · exact wans_WB _
                · exact z
              · exact z
            · exact z
          · exact z
        · exact z
      · exact z
    · exact z
  · exact z
theorem lFlip_no {l : Ln} {s q : Int} (h : fitB s q = false) : N12 (l, s, q, ()) = some (0, 1, ()) := by
  obtain ⟨⟨a0, a1⟩, ⟨b0, b1⟩, ⟨c0, c1⟩⟩ := l
  unfold N12 M12
  simp only []
  rw [lfit, h]
  rfl
theorem lFlip_over {l : Ln} {s q : Int} (hl : LB l) (hf : fitB s q = true) (h : spanBad l s = true) : N12 (l, s, q, ()) = some (0, 10, ()) := by
  have e := lSpan hl s
  have wb := span_WB (lA l) (lB l) (lC l) s
  rw [show spanans (wv l.1.1 l.1.2) (wv l.2.1.1 l.2.1.2) (wv l.2.2.1 l.2.2.2) s = spanans (lA l) (lB l) (lC l) s from rfl] at e
  unfold spanBad at h
  obtain ⟨⟨a0, a1⟩, ⟨b0, b1⟩, ⟨c0, c1⟩⟩ := l
  generalize spanans (lA ((a0, a1), (b0, b1), (c0, c1))) (lB ((a0, a1), (b0, b1), (c0, c1))) (lC ((a0, a1), (b0, b1), (c0, c1))) s = x at *
  obtain ⟨⟨x0, x1⟩, x2, ⟨⟩⟩ := x
  unfold N12 M12
  simp only [] at h ⊢
  rw [lfit, hf]
  simp only [Option.bind_some, Bool.not_true, cond_false]
  rw [e]
  simp only [Option.bind_some]
  cases hx : (x2 != 0) with
  | true => rfl
  | false =>
    rw [hx] at h
    simp only [cond_false]
    rw [wCmp wb (show WB 4611686018427387904 0 from by unfold WB; omega)]
    simp only [Option.bind_some]
    rw [show wv 4611686018427387904 0 = 85070591730234615865843651857942052864 from rfl]
    rw [Bool.false_or] at h
    rw [h]
    rfl
theorem lFlip_at {l : Ln} {s q : Int} (hl : LB l) (hf : fitB s q = true) (h : spanBad l s = false) : ∃ x, N12 (l, s, q, ()) = some (x, 0, ()) ∧ Flips l s q x := by
  have hn := spanBad_narrow hf h
  obtain ⟨s1, s2, q0, q1⟩ := fitB_iff.1 hf
  have e := lSpan hl s
  have wb := span_WB (lA l) (lB l) (lC l) s
  rw [show spanans (wv l.1.1 l.1.2) (wv l.2.1.1 l.2.1.2) (wv l.2.2.1 l.2.2.2) s = spanans (lA l) (lB l) (lC l) s from rfl] at e
  unfold spanBad at h
  generalize spanans (lA l) (lB l) (lC l) s = x at *
  obtain ⟨⟨x0, x1⟩, x2, ⟨⟩⟩ := x
  rw [Bool.or_eq_false_iff] at h
  obtain ⟨h1, h2⟩ := h
  have at0 := lAt (w := false) hl hn q0 q1
  have hbM := blkM s1
  have hbq := blk_mono s1 q1
  have hb0 := (blk_in hf).1
  obtain ⟨bo1, bo2⟩ := blk_of (q := q) s1
  have bo3 : blk q s * s = (blk q s - 1) * s + s := by rw [Int.sub_mul]; omega
  have hhi : (if 1099511627776 < blk q s * s then 1099511627776 else blk q s * s) = hiB s (blk q s) := rfl
  -- within the block
  obtain ⟨x, ok, e1, f1⟩ := lWithin (l := l) (s := s) (lo := q + 1) (hi := hiB s (blk q s)) (w := sta l s q) hl hn (by omega) (by unfold hiB; split <;> omega) (by omega) (by unfold hiB; split <;> omega) (fun hle => by
    have a := blk_mono s1 (show q ≤ q + 1 by omega)
    have b := blk_mono s1 hle
    have c : blk (hiB s (blk q s)) s ≤ blk q s := by
      have : hiB s (blk q s) ≤ blk q s * s := by unfold hiB; split <;> omega
      have := blk_mono s1 this
      have e := blk_eq (q := blk q s * s) (k := blk q s) s1 (by omega) (Int.le_refl _)
      omega
    omega)
  obtain ⟨j, okj, e2, f2⟩ := lAhead (l := l) (s := s) (k := blk q s + 1) (most := blk 1099511627776 s - 1) (w := sta l s q) hl hn (by omega) (by omega) (Int.le_refl _)
  have fin : ∀ j, ok = false → blk q s < j → j ≤ blk 1099511627776 s → (∀ i, blk q s < i → i < j → Still l s (sta l s q) i) → (Still l s (sta l s q) j → j = blk 1099511627776 s) → ∃ x' okx, N37 ((l, s, sta l s q), loB s j, hiB s j, ()) = some (x', okx, ()) ∧ (okx = true → Flips l s q x') ∧ (okx = false → Flips l s q 1099511627777) := fun j hok j0 j1 ji jl => by
    have hk : ∀ y, q < y → y ≤ hiB s (blk q s) → sta l s y = sta l s q := fun y y0 y1 => f1.2 hok y (by omega) y1
    obtain ⟨a, b, c, d⟩ := lo_hi s1 (loB_last s1 j1)
    have lp := loB_pos s1 (show 1 ≤ j by omega)
    obtain ⟨x', okx, ex, fx⟩ := lWithin (l := l) (s := s) (lo := loB s j) (hi := hiB s j) (w := sta l s q) hl hn (by omega) d (by omega) (by omega) (fun _ => b.trans c.symm)
    refine ⟨x', okx, ex, fun ho => ?_, fun ho => ?_⟩
    · obtain ⟨k0, k1, k2, k3⟩ := fx.1 ho
      exact flips_in s1 q0 q1 hk j0 j1 ji k0 k1 k2 k3
    · have hs : Still l s (sta l s q) j := ⟨fx.2 ho _ (Int.le_refl _) a, fx.2 ho _ a (Int.le_refl _)⟩
      have := jl hs
      refine flips_none s1 q0 q1 hk fun i i0 i1 => ?_
      by_cases hij : i < j
      · exact ji i i0 hij
      · rw [show i = j from by omega]; exact hs
  have hblk : ∀ j, blk q s < j → j ≤ blk 1099511627776 s → N39 ((l, s, sta l s q), j, ()) = some (loB s j, hiB s j, ()) := fun j j0 j1 => lBlock s1 s2 (by omega) (loB_last s1 j1)
  have bq := lblocks hf
  have bM := lblocks (s := s) (q := 1099511627776) (fitB_iff.2 ⟨s1, s2, by omega, by omega⟩)
  have hr := hn.rng q0 q1
  have hnone : ok = false → okj = false → blk 1099511627776 s < blk q s + 1 → Flips l s q 1099511627777 := fun hok hj hlt => flips_none s1 q0 q1 (fun y y0 y1 => f1.2 hok y (by omega) y1) fun i i0 i1 => by omega
  have sg : decide (cmpv (wv (lva l s q / 18446744073709551616) (lva l s q % 18446744073709551616)) 0 > 0) = sta l s q := by rw [wv_of, cmpv_pos]; rfl
  have wbv : WB (lva l s q / 18446744073709551616) (lva l s q % 18446744073709551616) := WB_in (v := lva l s q) ⟨Int.le_trans (by decide) (hn.rng q0 q1).1, Int.le_trans (hn.rng q0 q1).2 (by decide)⟩
  generalize lva l s q / 18446744073709551616 = u0 at *
  generalize lva l s q % 18446744073709551616 = u1 at *
  generalize hws : sta l s q = w at *
  obtain ⟨⟨a0, a1⟩, ⟨b0, b1⟩, ⟨c0, c1⟩⟩ := l
  unfold N12 M12
  simp only [] at h1 h2 ⊢
  rw [lfit, hf]
  simp only [Option.bind_some, Bool.not_true, cond_false]
  rw [e]
  simp only [Option.bind_some]
  rw [h1]
  simp only [cond_false]
  rw [wCmp wb (show WB 4611686018427387904 0 from by unfold WB; omega)]
  simp only [Option.bind_some]
  rw [show wv 4611686018427387904 0 = 85070591730234615865843651857942052864 from rfl, h2]
  simp only [cond_false]
  rw [at0]
  simp only [Option.bind_some]
  rw [wSign wbv]
  simp only [Option.bind_some]
  rw [bq]
  simp only [Option.bind_some]
  rw [bM]
  simp only [Option.bind_some]
  rw [wsi (n := q + 1) (by omega), wsi (n := blk q s * s) (by omega), hhi, sg, e1]
  simp only [Option.bind_some]
  cases hok : ok with
  | true =>
    obtain ⟨k0, k1, k2, k3⟩ := f1.1 hok
    have hM : hiB s (blk q s) ≤ 1099511627776 := by unfold hiB; split <;> omega
    exact ⟨x, rfl, by omega, by omega, fun y y0 y1 => (k3 y (by omega) y1).trans hws.symm, fun _ => fun hh => k2 (hh.trans hws)⟩
  | false =>
    simp only [cond_false]
    rw [wsi (n := blk q s + 1) (by omega), wsi (n := blk 1099511627776 s - 1) (by omega), e2]
    simp only [Option.bind_some]
    cases hj : okj with
    | true =>
      obtain ⟨k0, k1, k2, k3⟩ := f2.1 hj
      obtain ⟨x', okx, ex, g1, g2⟩ := fin j hok (by omega) (by omega) (fun i i0 i1 => k3 i (by omega) i1) (fun hs => absurd hs k2)
      simp only [Bool.not_true, cond_false]
      rw [bif_f (decide_eq_false (by omega)), hblk j (by omega) (by omega)]
      simp only [Option.bind_some]
      rw [ex]
      simp only [Option.bind_some]
      cases ho : okx with
      | true => exact ⟨x', rfl, g1 ho⟩
      | false => exact ⟨_, rfl, g2 ho⟩
    | false =>
      simp only [Bool.not_false, cond_true]
      by_cases hlt : blk q s + 1 > blk 1099511627776 s
      · rw [if_pos hlt, bif_t (decide_eq_true hlt)]
        exact ⟨_, rfl, hnone hok hj (by omega)⟩
      · rw [if_neg hlt, bif_f (decide_eq_false (by omega)), hblk _ (by omega) (Int.le_refl _)]
        simp only [Option.bind_some]
        obtain ⟨x', okx, ex, g1, g2⟩ := fin (blk 1099511627776 s) hok (by omega) (Int.le_refl _) (fun i i0 i1 => f2.2 hj i (by omega) (by omega)) (fun _ => rfl)
        rw [ex]
        simp only [Option.bind_some]
        cases ho : okx with
        | true => exact ⟨x', rfl, g1 ho⟩
        | false => exact ⟨_, rfl, g2 ho⟩
end Go.Proofs.Ytgdnleanagclaaa.E
namespace Go.Proofs.Ytgdnleanagclaaa.E
open Go
set_option linter.unusedVariables false
set_option maxRecDepth 100000
theorem rBelow {l : List Int} {V : Int} (h : Long l V) : N64 (l, ()) = some (decide (V ≥ 3138550867693340381917894711603833208051177722232017256448), ()) := by
  obtain ⟨d0, d1, d2, d3, d4, d5, d6, d7, d8, d9, d10, d11, rfl, k0, k1, k2, k3, k4, k5, k6, k7, k8, k9, k10, k11, e⟩ := h.open
  unfold N64 M64
  show some (decide (d11 ≥ 32768), ()) = _
  rw [show decide (d11 ≥ 32768) = decide (V ≥ 3138550867693340381917894711603833208051177722232017256448) from by
    rw [decide_eq_decide]
    unfold D16 at *
    omega]
theorem Long_zero {l : List Int} {V : Int} (h : Long l V) : (l == [0, 0, 0, 0, 0, 0, 0, 0, 0, 0, 0, 0]) = decide (V = 0) := by
  obtain ⟨d0, d1, d2, d3, d4, d5, d6, d7, d8, d9, d10, d11, rfl, k0, k1, k2, k3, k4, k5, k6, k7, k8, k9, k10, k11, e⟩ := h.open
  unfold D16 at *
  rw [Bool.eq_iff_iff, beq_iff_eq, decide_eq_true_eq]
  constructor
  · intro he
    simp only [List.cons.injEq] at he
    omega
  · intro he
    simp only [List.cons.injEq, and_true]
    omega
theorem rSign {h l : Int} (b : WB h l) : N65 ((h, l), ()) = some (cmpv (wv h l) 0, ()) := by
  obtain ⟨d, k1, k2⟩ := rDigits b
  have hb := rBelow k2
  have h1 := wv_in b
  unfold N65 M65 cmpv
  simp only [k1, hb, Option.bind_some]
  rw [show decide (long (wv h l) ≥ 3138550867693340381917894711603833208051177722232017256448) = decide (wv h l < 0) from by rw [decide_eq_decide]; unfold long; omega]
  simp only [bif_p, bif_eq]
  unfold WB at b
  unfold wv
  (repeat' split) <;> first | rfl | (exfalso; omega)
theorem rCmp {a0 a1 b0 b1 : Int} (ha : WB a0 a1) (hb : WB b0 b1) : N40 ((a0, a1), (b0, b1), ()) = some (cmpv (wv a0 a1) (wv b0 b1), ()) := by
  obtain ⟨l, k1, k2⟩ := rDigits ha
  obtain ⟨m, j1, j2⟩ := rDigits hb
  obtain ⟨m', t1, t2⟩ := rTurned j2
  obtain ⟨n, i1, i2⟩ := rPlus k2 t2
  have h1 := wv_in ha
  have h2 := wv_in hb
  have hB := rBelow i2
  have hZ := Long_zero i2
  unfold N40 M40 cmpv
  simp only [k1, j1, t1, i1, hB, hZ, Option.bind_some]
  simp only [bif_p]
  unfold long
  (repeat' split) <;> first | rfl | (exfalso; omega)
end Go.Proofs.Ytgdnleanagclaaa.E
namespace Go.Proofs.Ytgdnleanagclaaa.E
open Go
set_option linter.unusedVariables false
set_option maxRecDepth 100000
theorem rAbove {l : Ln} {s q : Int} (hl : LB l) (h : nar l s) (h0 : 0 ≤ q) (h1 : q ≤ 1099511627776) : N41 (l, s, q, ()) = some (sta l s q, ()) := by
  have e := rValue hl s q
  have e2 := h.val h0 h1
  unfold lA lB lC at e2
  rw [e2] at e
  have wb : WB (lva l s q / 18446744073709551616) (lva l s q % 18446744073709551616) := WB_in (v := lva l s q) ⟨Int.le_trans (by decide) (h.rng h0 h1).1, Int.le_trans (h.rng h0 h1).2 (by decide)⟩
  have sg := rSign wb
  rw [wv_of] at sg
  have sp : decide (cmpv (lva l s q) 0 > 0) = sta l s q := cmpv_pos _
  have e : N11 (l, s, q, ()) = some ((lva l s q / 18446744073709551616, lva l s q % 18446744073709551616), 0, ()) := e
  generalize lva l s q / 18446744073709551616 = u0 at *
  generalize lva l s q % 18446744073709551616 = u1 at *
  generalize cmpv (lva l s q) 0 = c at *
  generalize sta l s q = w at *
  obtain ⟨⟨a0, a1⟩, ⟨b0, b1⟩, ⟨c0, c1⟩⟩ := l
  unfold N41 M41
  simp only []
  rw [e]
  simp only [Option.bind_some]
  rw [sg]
  simp only [Option.bind_some]
  rw [sp]
theorem rEnds {s k : Int} (s1 : 1 ≤ s) (s2 : s ≤ 1000000000000) (k1 : 1 ≤ k) (hk : loB s k ≤ 1099511627776) : N42 (s, k, ()) = some (loB s k, hiB s k, ()) := by
  have e : k * s = (k - 1) * s + s := by rw [Int.sub_mul]; omega
  have p := Int.mul_nonneg (show 0 ≤ k - 1 by omega) (show 0 ≤ s by omega)
  have kk : k - 1 ≤ (k - 1) * s := by
    have := Int.mul_le_mul_of_nonneg_left s1 (show 0 ≤ k - 1 by omega)
    omega
  have q0 := Int.ediv_nonneg (show (0 : Int) ≤ 1099511627776 by omega) (show 0 ≤ s by omega)
  have q1 : 1099511627776 / s ≤ 1099511627776 := Int.ediv_le_self _ (by omega)
  unfold loB at hk
  unfold N42 M42 loB hiB
  simp only []
  rw [bif_t (show (!s == 0) = true from by simp; omega)]
  simp only [Option.bind_some]
  rw [tdiv_pos (by omega), wsi (n := 1099511627776 / s) (by omega), wsi (n := k - 1) (by omega), wsi (n := (k - 1) * s) (by omega), wsi (n := (k - 1) * s + 1) (by omega), wsi (n := k * s) (by omega), bif_p]
  have iff := Int.le_ediv_iff_mul_le (a := k) (b := 1099511627776) (show 0 < s by omega)
  by_cases h : k ≤ 1099511627776 / s
  · rw [if_pos h, if_neg (by have := iff.1 h; omega)]
  · rw [if_neg h, if_pos (by
      have : ¬ k * s ≤ 1099511627776 := fun h2 => h (iff.2 h2)
      omega)]
def stillB (l : Ln) (s : Int) (w : Bool) (k : Int) : Bool := (sta l s (loB s k) == w) && (sta l s (hiB s k) == w)
theorem stillB_iff {l : Ln} {s : Int} {w : Bool} {k : Int} : stillB l s w k = true ↔ Still l s w k := by unfold stillB Still; simp
theorem stillB_no {l : Ln} {s : Int} {w : Bool} {k : Int} : stillB l s w k = false ↔ ¬ Still l s w k := by rw [← stillB_iff]; simp
theorem rTurns {l : Ln} {s k : Int} {w : Bool} (hl : LB l) (h : nar l s) (k1 : 1 ≤ k) (hk : k ≤ blk 1099511627776 s) : N44 (l, s, k, w, ()) = some (!stillB l s w k, ()) := by
  have lo := loB_last h.s1 hk
  have lp := loB_pos h.s1 k1
  obtain ⟨a, b, c, d⟩ := lo_hi h.s1 lo
  have e1 := rEnds h.s1 h.s2 k1 lo
  have e2 := rAbove hl h (show 0 ≤ loB s k by omega) lo
  have e3 := rAbove hl h (show 0 ≤ hiB s k by omega) d
  unfold stillB
  generalize sta l s (loB s k) = x at *
  generalize sta l s (hiB s k) = y at *
  obtain ⟨⟨a0, a1⟩, ⟨b0, b1⟩, ⟨c0, c1⟩⟩ := l
  unfold N44 M44
  simp only []
  rw [e1]
  simp only [Option.bind_some]
  rw [e2]
  simp only [Option.bind_some]
  rw [e3]
  cases x <;> cases y <;> cases w <;> rfl
theorem rFirst {l : Ln} {s lo hi p : Int} {w : Bool} (hl : LB l) (h : nar l s) (p0 : 0 ≤ p) (p1 : p ≤ lo) (h1 : lo ≤ hi) (h2 : hi ≤ 1099511627776) (hb : blk p s = blk hi s) (hp : sta l s p = w) (ht : sta l s hi ≠ w) :
    ∃ x, N43 (l, s, lo, hi, w, ()) = some (x, ()) ∧ lo ≤ x ∧ x ≤ hi ∧ sta l s x ≠ w ∧ ∀ y, lo ≤ y → y < x → sta l s y = w := by
  have mono : ∀ y z, p ≤ y → y ≤ z → z ≤ hi → sta l s z = w → sta l s y = w := fun y z y0 yz z1 hz => by
    have e1 := blk_mono h.s1 (show p ≤ z by omega)
    have e2 := blk_mono h.s1 z1
    exact st_between h.s1 (show blk p s = blk z s by omega) y0 yz hp hz
  have L := itrs_inv (ro := R43_0) (fun z => ∃ a b, z = (s, a, b, w, (l.1, l.2.1, l.2.2, ()), ()) ∧ lo ≤ a ∧ a ≤ b ∧ b ≤ hi ∧ sta l s b ≠ w ∧ ∀ y, lo ≤ y → y < a → sta l s y = w) (fun z => (z.2.2.1 - z.2.1).toNat) (fun y => ∃ x, y = (x, ()) ∧ lo ≤ x ∧ x ≤ hi ∧ sta l s x ≠ w ∧ ∀ y, lo ≤ y → y < x → sta l s y = w) (fun z ⟨a, b, hz, a0, ab, b1, hb', ha⟩ => by
    subst hz
    by_cases hab : a < b
    · have ea := rAbove hl h (show 0 ≤ a + (b - a) / 2 by omega) (show a + (b - a) / 2 ≤ 1099511627776 by omega)
      have m0 : 0 ≤ (b - a) / 2 := by omega
      have m1 : (b - a) / 2 < b - a := by omega
      by_cases hm : sta l s (a + (b - a) / 2) = w
      · refine .inl ⟨(s, a + (b - a) / 2 + 1, b, w, (l.1, l.2.1, l.2.2, ()), ()), ?_, ⟨a + (b - a) / 2 + 1, b, rfl, by omega, by omega, b1, hb', fun y y0 y1 => ?_⟩, by simp only; omega⟩
        · rw [hm] at ea
          obtain ⟨⟨a0, a1⟩, ⟨b0, b1⟩, ⟨c0, c1⟩⟩ := l
          unfold R43_0 Q43_0
          simp only []
          rw [bif_t (decide_eq_true hab), wsi (n := b - a) (by omega), tdiv_pos (by omega), wsi (n := (b - a) / 2) (by omega), wsi (n := a + (b - a) / 2) (by omega), ea]
          simp only [Option.bind_some]
          rw [beq_self_eq_true, wsi (n := a + (b - a) / 2 + 1) (by omega)]
          rfl
        · exact mono y (a + (b - a) / 2) (by omega) (by omega) (by omega) hm
      · refine .inl ⟨(s, a, a + (b - a) / 2, w, (l.1, l.2.1, l.2.2, ()), ()), ?_, ⟨a, a + (b - a) / 2, rfl, a0, by omega, by omega, hm, ha⟩, by simp only; omega⟩
        have hm2 : (sta l s (a + (b - a) / 2) == w) = false := by simpa using hm
        generalize sta l s (a + (b - a) / 2) = x at *
        obtain ⟨⟨a0, a1⟩, ⟨b0, b1⟩, ⟨c0, c1⟩⟩ := l
        unfold R43_0 Q43_0
        simp only []
        rw [bif_t (decide_eq_true hab), wsi (n := b - a) (by omega), tdiv_pos (by omega), wsi (n := (b - a) / 2) (by omega), wsi (n := a + (b - a) / 2) (by omega), ea]
        simp only [Option.bind_some]
        rw [hm2]
        rfl
    · refine .inr ⟨(a, ()), ?_, a, rfl, a0, by omega, by rw [show a = b from by omega]; exact hb', ha⟩
      obtain ⟨⟨a0, a1⟩, ⟨b0, b1⟩, ⟨c0, c1⟩⟩ := l
      unfold R43_0 Q43_0
      simp only []
      rw [bif_f (decide_eq_false hab)]) (x := (s, lo, hi, w, (l.1, l.2.1, l.2.2, ()), ())) ⟨lo, hi, rfl, Int.le_refl _, h1, Int.le_refl _, ht, fun y y0 y1 => by omega⟩ (by simp only; omega)
  obtain ⟨y, e, x, rfl, k⟩ := L
  refine ⟨x, ?_, k⟩
  obtain ⟨⟨a0, a1⟩, ⟨b0, b1⟩, ⟨c0, c1⟩⟩ := l
  unfold N43 M43
  simp only [] at e ⊢
  rw [e]
  rfl
theorem still_between {l : Ln} {s j i m : Int} {w : Bool} (s1 : 1 ≤ s) (h1 : j ≤ i) (h2 : i ≤ m) (hm : m ≤ blk 1099511627776 s - 1) (a : Still l s w j) (b : Still l s w m) : Still l s w i := by
  have hL : ∀ n, loB s (j + n) = loB s j + n * s := fun n => by
    unfold loB
    rw [show j + n - 1 = (j - 1) + n from by omega, Int.add_mul]
    omega
  have hH : ∀ n, n ≤ m - j → hiB s (j + n) = j * s + n * s := fun n hn => by rw [(whole s1 (show j + n ≤ blk 1099511627776 s - 1 by omega)).2, Int.add_mul]
  have ei : i = j + (i - j) := by omega
  have em : m = j + (m - j) := by omega
  have ej : hiB s j = j * s := (whole s1 (show j ≤ blk 1099511627776 s - 1 by omega)).2
  obtain ⟨a1, a2⟩ := a
  obtain ⟨b1, b2⟩ := b
  rw [em, hL] at b1
  rw [em, hH _ (by omega)] at b2
  rw [ej] at a2
  refine ⟨?_, ?_⟩
  · rw [ei, hL]
    exact st_far s1 (by omega) (show i - j ≤ m - j by omega) a1 b1
  · rw [ei, hH _ (by omega)]
    exact st_far s1 (by omega) (show i - j ≤ m - j by omega) a2 b2
theorem rSearch {l : Ln} {s lo j : Int} {w : Bool} (hl : LB l) (h : nar l s) (l1 : 1 ≤ lo) (lj : lo ≤ j) (hj : j ≤ blk 1099511627776 s - 1) (hs : Still l s w lo) (ht : ¬ Still l s w j) :
    ∃ x, itrs R13_0 (s, (l.1, l.2.1, l.2.2, ()), w, blk 1099511627776 s, j, lo, ()) = some (s, (l.1, l.2.1, l.2.2, ()), w, blk 1099511627776 s, x, ()) ∧ lo ≤ x ∧ x ≤ j ∧ ¬ Still l s w x ∧ ∀ i, lo ≤ i → i < x → Still l s w i := by
  have hbM := blkM h.s1
  have L := itrs_inv (ro := R13_0) (fun z => ∃ a b, z = (s, (l.1, l.2.1, l.2.2, ()), w, blk 1099511627776 s, b, a, ()) ∧ lo ≤ a ∧ a ≤ b ∧ b ≤ j ∧ ¬ Still l s w b ∧ ∀ i, lo ≤ i → i < a → Still l s w i) (fun z => (z.2.2.2.2.1 - z.2.2.2.2.2.1).toNat) (fun y => ∃ x, y = (s, (l.1, l.2.1, l.2.2, ()), w, blk 1099511627776 s, x, ()) ∧ lo ≤ x ∧ x ≤ j ∧ ¬ Still l s w x ∧ ∀ i, lo ≤ i → i < x → Still l s w i) (fun z ⟨a, b, hz, a0, ab, b1, hb', ha⟩ => by
    subst hz
    by_cases hab : a < b
    · have m0 : 0 ≤ (b - a) / 2 := by omega
      have m1 : (b - a) / 2 < b - a := by omega
      have ea := rTurns (w := w) hl h (show 1 ≤ a + (b - a) / 2 by omega) (show a + (b - a) / 2 ≤ blk 1099511627776 s by omega)
      cases hm : stillB l s w (a + (b - a) / 2) with
      | true =>
        refine .inl ⟨(s, (l.1, l.2.1, l.2.2, ()), w, blk 1099511627776 s, b, a + (b - a) / 2 + 1, ()), ?_, ⟨a + (b - a) / 2 + 1, b, rfl, by omega, by omega, b1, hb', fun i i0 i1 => ?_⟩, by simp only; omega⟩
        · rw [hm] at ea
          generalize blk 1099511627776 s = last at *
          obtain ⟨⟨a0, a1⟩, ⟨b0, b1⟩, ⟨c0, c1⟩⟩ := l
          unfold R13_0 Q13_0
          simp only []
          rw [bif_t (decide_eq_true hab), wsi (n := b - a) (by omega), tdiv_pos (by omega), wsi (n := (b - a) / 2) (by omega), wsi (n := a + (b - a) / 2) (by omega), ea]
          simp only [Option.bind_some]
          rw [wsi (n := a + (b - a) / 2 + 1) (by omega)]
          rfl
        · exact still_between h.s1 i0 (show i ≤ a + (b - a) / 2 by omega) (by omega) hs (stillB_iff.1 hm)
      | false =>
        refine .inl ⟨(s, (l.1, l.2.1, l.2.2, ()), w, blk 1099511627776 s, a + (b - a) / 2, a, ()), ?_, ⟨a, a + (b - a) / 2, rfl, a0, by omega, by omega, stillB_no.1 hm, ha⟩, by simp only; omega⟩
        rw [hm] at ea
        generalize blk 1099511627776 s = last at *
        obtain ⟨⟨a0, a1⟩, ⟨b0, b1⟩, ⟨c0, c1⟩⟩ := l
        unfold R13_0 Q13_0
        simp only []
        rw [bif_t (decide_eq_true hab), wsi (n := b - a) (by omega), tdiv_pos (by omega), wsi (n := (b - a) / 2) (by omega), wsi (n := a + (b - a) / 2) (by omega), ea]
        rfl
    · refine .inr ⟨(s, (l.1, l.2.1, l.2.2, ()), w, blk 1099511627776 s, b, ()), ?_, b, rfl, by omega, b1, hb', fun i i0 i1 => ha i i0 (by omega)⟩
      generalize blk 1099511627776 s = last at *
      obtain ⟨⟨a0, a1⟩, ⟨b0, b1⟩, ⟨c0, c1⟩⟩ := l
      unfold R13_0 Q13_0
      simp only []
      rw [bif_f (decide_eq_false hab)]) (x := (s, (l.1, l.2.1, l.2.2, ()), w, blk 1099511627776 s, j, lo, ())) ⟨lo, j, rfl, Int.le_refl _, lj, Int.le_refl _, ht, fun i i0 i1 => by omega⟩ (by simp only; omega)
  obtain ⟨y, e, x, rfl, k⟩ := L
  exact ⟨x, e, k⟩
end Go.Proofs.Ytgdnleanagclaaa.E
namespace Go.Proofs.Ytgdnleanagclaaa.E
open Go
set_option linter.unusedVariables false
set_option maxRecDepth 100000
/-- The end of the reference's search: in block j, or nowhere. -/
def rTail (l : Ln) (s : Int) (w : Bool) (last j : Int) : Option (Int × Int × Unit) :=
  bif decide (j > last) then some (1099511627777, 0, ()) else (N44 (l, s, j, w, ())).bind fun ⟨t, ()⟩ => bif !t then some (1099511627777, 0, ()) else (N42 (s, j, ())).bind fun ⟨lo, hi, ()⟩ => (N41 (l, s, lo, ())).bind fun ⟨y, ()⟩ => bif !(y == w) then some (lo, 0, ()) else (N43 (l, s, lo, hi, w, ())).bind fun ⟨x, ()⟩ => some (x, 0, ())
theorem rTail_at {l : Ln} {s q j : Int} (hl : LB l) (h : nar l s) (q0 : 0 ≤ q) (q1 : q ≤ 1099511627776) (hk : ∀ y, q < y → y ≤ hiB s (blk q s) → sta l s y = sta l s q) (hj : blk q s < j) (j1 : 1 ≤ j) (hi : ∀ i, blk q s < i → i < j → i ≤ blk 1099511627776 s → Still l s (sta l s q) i) (hs : j ≤ blk 1099511627776 s → Still l s (sta l s q) j → ∀ i, j ≤ i → i ≤ blk 1099511627776 s → Still l s (sta l s q) i) :
    ∃ x, rTail l s (sta l s q) (blk 1099511627776 s) j = some (x, 0, ()) ∧ Flips l s q x := by
  unfold rTail
  by_cases hjl : j > blk 1099511627776 s
  · rw [bif_t (decide_eq_true hjl)]
    exact ⟨_, rfl, flips_none h.s1 q0 q1 hk fun i i0 i1 => hi i i0 (by omega) i1⟩
  rw [bif_f (decide_eq_false hjl), rTurns hl h j1 (by omega)]
  simp only [Option.bind_some, Bool.not_not]
  cases hb : stillB l s (sta l s q) j with
  | true =>
    have := hs (by omega) (stillB_iff.1 hb)
    refine ⟨_, rfl, flips_none h.s1 q0 q1 hk fun i i0 i1 => ?_⟩
    by_cases hij : i < j
    · exact hi i i0 hij i1
    · exact this i (by omega) i1
  | false =>
    have lo := loB_last h.s1 (show j ≤ blk 1099511627776 s by omega)
    have lp := loB_pos h.s1 j1
    obtain ⟨a, b, c, d⟩ := lo_hi h.s1 lo
    simp only [cond_false]
    rw [rEnds h.s1 h.s2 j1 lo]
    simp only [Option.bind_some]
    rw [rAbove hl h (show 0 ≤ loB s j by omega) lo]
    simp only [Option.bind_some]
    by_cases he : sta l s (loB s j) = sta l s q
    · rw [bif_f (show (!(sta l s (loB s j) == sta l s q)) = false from by simpa using he)]
      have hne : sta l s (hiB s j) ≠ sta l s q := fun e => stillB_no.1 hb ⟨he, e⟩
      obtain ⟨x, e, x0, x1, x2, x3⟩ := rFirst (p := loB s j) hl h (by omega) (Int.le_refl _) a d (b.trans c.symm) he hne
      rw [e]
      exact ⟨x, rfl, flips_in h.s1 q0 q1 hk hj (by omega) (fun i i0 i1 => hi i i0 i1 (by omega)) x0 x1 x2 x3⟩
    · rw [bif_t (show (!(sta l s (loB s j) == sta l s q)) = true from by simpa using he)]
      exact ⟨_, rfl, flips_in h.s1 q0 q1 hk hj (by omega) (fun i i0 i1 => hi i i0 i1 (by omega)) (Int.le_refl _) a he (fun y y0 y1 => by omega)⟩
/-- The reference's search behind the first block. -/
def rRest (l : Ln) (s : Int) (w : Bool) (last k : Int) : Option (Int × Int × Unit) :=
  bif decide (IntKind.wrap .i64 (k + 1) < last) then (N44 (l, s, IntKind.wrap .i64 (k + 1), w, ())).bind fun ⟨t, ()⟩ => bif !t then (N44 (l, s, IntKind.wrap .i64 (last - 1), w, ())).bind fun ⟨u, ()⟩ => bif u then (itrs R13_0 (s, (l.1, l.2.1, l.2.2, ()), w, last, IntKind.wrap .i64 (last - 1), IntKind.wrap .i64 (k + 1), ())).bind fun ⟨s', ⟨l1, l2, l3, ()⟩, w', last', j, ()⟩ => rTail (l1, l2, l3) s' w' last' j else rTail l s w last last else rTail l s w last (IntKind.wrap .i64 (k + 1)) else rTail l s w last (IntKind.wrap .i64 (k + 1))
theorem rRest_at {l : Ln} {s q : Int} (hl : LB l) (h : nar l s) (q0 : 0 ≤ q) (q1 : q ≤ 1099511627776) (hk : ∀ y, q < y → y ≤ hiB s (blk q s) → sta l s y = sta l s q) :
    ∃ x, rRest l s (sta l s q) (blk 1099511627776 s) (blk q s) = some (x, 0, ()) ∧ Flips l s q x := by
  have hbM := blkM h.s1
  have hbq := blk_mono h.s1 q1
  have hb0 := (blk_in (fitB_iff.2 ⟨h.s1, h.s2, q0, q1⟩)).1
  have one : ∃ x, rTail l s (sta l s q) (blk 1099511627776 s) (blk q s + 1) = some (x, 0, ()) ∧ Flips l s q x ∨ (blk q s + 1 < blk 1099511627776 s ∧ Still l s (sta l s q) (blk q s + 1)) := by
    by_cases h1 : blk q s + 1 < blk 1099511627776 s ∧ Still l s (sta l s q) (blk q s + 1)
    · exact ⟨0, .inr h1⟩
    · obtain ⟨x, e, f⟩ := rTail_at (j := blk q s + 1) hl h q0 q1 hk (by omega) (by omega) (fun i i0 i1 _ => by omega) (fun hj hs i i0 i1 => by
        have : ¬ blk q s + 1 < blk 1099511627776 s := fun h2 => h1 ⟨h2, hs⟩
        rw [show i = blk q s + 1 from by omega]
        exact hs)
      exact ⟨x, .inl ⟨e, f⟩⟩
  unfold rRest
  rw [wsi (n := blk q s + 1) (by omega), wsi (n := blk 1099511627776 s - 1) (by omega)]
  by_cases hlt : blk q s + 1 < blk 1099511627776 s
  rotate_left
  · rw [bif_f (decide_eq_false hlt)]
    obtain ⟨x, ⟨e, f⟩ | ⟨h1, _⟩⟩ := one
    · exact ⟨x, e, f⟩
    · exact absurd h1 hlt
  rw [bif_t (decide_eq_true hlt), rTurns hl h (show 1 ≤ blk q s + 1 by omega) (by omega)]
  simp only [Option.bind_some, Bool.not_not]
  cases hb : stillB l s (sta l s q) (blk q s + 1) with
  | false =>
    obtain ⟨x, ⟨e, f⟩ | ⟨_, h1⟩⟩ := one
    · exact ⟨x, e, f⟩
    · exact absurd h1 (stillB_no.1 hb)
  | true =>
    have hs := stillB_iff.1 hb
    simp only [cond_true]
    rw [rTurns hl h (show 1 ≤ blk 1099511627776 s - 1 by omega) (by omega)]
    simp only [Option.bind_some]
    cases hb2 : stillB l s (sta l s q) (blk 1099511627776 s - 1) with
    | false =>
      obtain ⟨x, e, x0, x1, x2, x3⟩ := rSearch hl h (show 1 ≤ blk q s + 1 by omega) (show blk q s + 1 ≤ blk 1099511627776 s - 1 by omega) (Int.le_refl _) hs (stillB_no.1 hb2)
      simp only [Bool.not_false, cond_true]
      rw [e]
      exact rTail_at (j := x) hl h q0 q1 hk (by omega) (by omega) (fun i i0 i1 _ => x3 i (by omega) i1) (fun _ hh => absurd hh x2)
    | true =>
      have hs2 := stillB_iff.1 hb2
      exact rTail_at (j := blk 1099511627776 s) hl h q0 q1 hk (by omega) (by omega) (fun i i0 i1 _ => still_between h.s1 (show blk q s + 1 ≤ i by omega) (show i ≤ blk 1099511627776 s - 1 by omega) (Int.le_refl _) hs hs2) (fun _ hh i i0 i1 => by rw [show i = blk 1099511627776 s from by omega]; exact hh)
theorem rFlip_no {l : Ln} {s q : Int} (h : fitB s q = false) : N13 (l, s, q, ()) = some (0, 1, ()) := by
  obtain ⟨⟨a0, a1⟩, ⟨b0, b1⟩, ⟨c0, c1⟩⟩ := l
  unfold N13 M13
  simp only []
  rw [rfits, h]
  rfl
theorem rFlip_over {l : Ln} {s q : Int} (hl : LB l) (hf : fitB s q = true) (h : spanBad l s = true) : N13 (l, s, q, ()) = some (0, 10, ()) := by
  have e := rSpan hl s
  have wb := span_WB (lA l) (lB l) (lC l) s
  rw [show spanans (wv l.1.1 l.1.2) (wv l.2.1.1 l.2.1.2) (wv l.2.2.1 l.2.2.2) s = spanans (lA l) (lB l) (lC l) s from rfl] at e
  unfold spanBad at h
  obtain ⟨⟨a0, a1⟩, ⟨b0, b1⟩, ⟨c0, c1⟩⟩ := l
  generalize spanans (lA ((a0, a1), (b0, b1), (c0, c1))) (lB ((a0, a1), (b0, b1), (c0, c1))) (lC ((a0, a1), (b0, b1), (c0, c1))) s = x at *
  obtain ⟨⟨x0, x1⟩, x2, ⟨⟩⟩ := x
  unfold N13 M13
  simp only [] at h ⊢
  rw [rfits, hf]
  simp only [Option.bind_some, Bool.not_true, cond_false]
  rw [e]
  simp only [Option.bind_some]
  cases hx : (x2 != 0) with
  | true => rfl
  | false =>
    rw [hx] at h
    simp only [cond_false]
    rw [rCmp wb (show WB 4611686018427387904 0 from by unfold WB; omega)]
    simp only [Option.bind_some]
    rw [show wv 4611686018427387904 0 = 85070591730234615865843651857942052864 from rfl]
    rw [Bool.false_or] at h
    rw [h]
    rfl
theorem rFlip_at {l : Ln} {s q : Int} (hl : LB l) (hf : fitB s q = true) (h : spanBad l s = false) : ∃ x, N13 (l, s, q, ()) = some (x, 0, ()) ∧ Flips l s q x := by
  have hn := spanBad_narrow hf h
  obtain ⟨s1, s2, q0, q1⟩ := fitB_iff.1 hf
  have e := rSpan hl s
  have wb := span_WB (lA l) (lB l) (lC l) s
  rw [show spanans (wv l.1.1 l.1.2) (wv l.2.1.1 l.2.1.2) (wv l.2.2.1 l.2.2.2) s = spanans (lA l) (lB l) (lC l) s from rfl] at e
  unfold spanBad at h
  generalize spanans (lA l) (lB l) (lC l) s = x at *
  obtain ⟨⟨x0, x1⟩, x2, ⟨⟩⟩ := x
  rw [Bool.or_eq_false_iff] at h
  obtain ⟨h1, h2⟩ := h
  have at0 := rAbove hl hn q0 q1
  have hbM := blkM s1
  have hbq := blk_mono s1 q1
  have hb0 := (blk_in hf).1
  obtain ⟨bo1, bo2⟩ := blk_of (q := q) s1
  have bq := rBlocks hf
  have bM := rBlocks (s := s) (q := 1099511627776) (fitB_iff.2 ⟨s1, s2, by omega, by omega⟩)
  have rest := fun hk => rRest_at (q := q) hl hn q0 q1 hk
  have hself : sta l s q = sta l s q := rfl
  have hhi0 : 0 < blk q s → q ≤ hiB s (blk q s) ∧ hiB s (blk q s) ≤ 1099511627776 ∧ blk (hiB s (blk q s)) s = blk q s := fun h0 => by
    obtain ⟨a, b, c, d⟩ := lo_hi s1 (loB_last s1 hbq)
    refine ⟨by unfold hiB; split <;> omega, d, c⟩
  have hends : 0 < blk q s → N42 (s, blk q s, ()) = some (loB s (blk q s), hiB s (blk q s), ()) := fun h0 => rEnds s1 s2 (by omega) (loB_last s1 hbq)
  have hAbove : 0 < blk q s → N41 (l, s, hiB s (blk q s), ()) = some (sta l s (hiB s (blk q s)), ()) := fun h0 => rAbove hl hn (by have := (hhi0 h0).1; omega) (hhi0 h0).2.1
  have hzero : blk q s = 0 → hiB s (blk q s) ≤ 0 := fun h0 => by rw [h0]; unfold hiB; rw [Int.zero_mul, if_neg (by omega)]; omega
  have hfirst : 0 < blk q s → q < hiB s (blk q s) → sta l s (hiB s (blk q s)) ≠ sta l s q → ∃ x, N43 (l, s, q + 1, hiB s (blk q s), sta l s q, ()) = some (x, ()) ∧ Flips l s q x := fun h0 hlt hne => by
    obtain ⟨a, b, c⟩ := hhi0 h0
    obtain ⟨x, ex, x0, x1, x2, x3⟩ := rFirst (p := q) (lo := q + 1) hl hn q0 (by omega) (by omega) b c.symm hself hne
    exact ⟨x, ex, by omega, by omega, fun y y0 y1 => x3 y (by omega) y1, fun _ => x2⟩
  have hstill : 0 < blk q s → sta l s (hiB s (blk q s)) = sta l s q → ∀ y, q < y → y ≤ hiB s (blk q s) → sta l s y = sta l s q := fun h0 he y y0 y1 => st_between s1 (hhi0 h0).2.2.symm (by omega) y1 hself he
  generalize sta l s q = w at *
  generalize hH : hiB s (blk q s) = hi at *
  generalize loB s (blk q s) = lo at *
  have restE : ∀ x : Option (Int × Int × Unit), x = rRest l s w (blk 1099511627776 s) (blk q s) → (∀ y, q < y → y ≤ hi → sta l s y = w) → ∃ x', x = some (x', 0, ()) ∧ Flips l s q x' := fun x hx hk => by rw [hx]; exact rest hk
  obtain ⟨⟨a0, a1⟩, ⟨b0, b1⟩, ⟨c0, c1⟩⟩ := l
  unfold N13 M13
  simp only [] at h1 h2 ⊢
  rw [rfits, hf]
  simp only [Option.bind_some, Bool.not_true, cond_false]
  rw [e]
  simp only [Option.bind_some]
  rw [h1]
  simp only [cond_false]
  rw [rCmp wb (show WB 4611686018427387904 0 from by unfold WB; omega)]
  simp only [Option.bind_some]
  rw [show wv 4611686018427387904 0 = 85070591730234615865843651857942052864 from rfl, h2]
  simp only [cond_false]
  rw [at0]
  simp only [Option.bind_some]
  rw [bM]
  simp only [Option.bind_some]
  rw [bq]
  simp only [Option.bind_some]
  by_cases hk0 : blk q s > 0
  · rw [bif_t (decide_eq_true hk0), hends hk0]
    simp only [Option.bind_some]
    by_cases hlt : q < hi
    · rw [bif_t (decide_eq_true hlt), hAbove hk0]
      simp only [Option.bind_some]
      by_cases hne : sta ((a0, a1), (b0, b1), (c0, c1)) s hi = w
      · rw [bif_f (show (!(sta ((a0, a1), (b0, b1), (c0, c1)) s hi == w)) = false from by simpa using hne)]
        exact restE _ rfl (hstill hk0 hne)
      · rw [bif_t (show (!(sta ((a0, a1), (b0, b1), (c0, c1)) s hi == w)) = true from by simpa using hne)]
        obtain ⟨x, ex, fx⟩ := hfirst hk0 hlt hne
        rw [wsi (n := q + 1) (by omega), ex]
        exact ⟨x, rfl, fx⟩
    · rw [bif_f (decide_eq_false hlt)]
      exact restE _ rfl fun y y0 y1 => by omega
  · rw [bif_f (decide_eq_false hk0)]
    exact restE _ rfl fun y y0 y1 => by have := hzero (by omega); omega
end Go.Proofs.Ytgdnleanagclaaa.E
namespace Go.Proofs.Ytgdnleanagclaaa.E
open Go
theorem awake_yes : N7 () = some (true, ()) := by kernel_rfl
end Go.Proofs.Ytgdnleanagclaaa.E
namespace Go.Proofs.Ytgdnleanagclaaa.E
open Go
set_option linter.unusedVariables false
set_option maxRecDepth 100000
theorem flip_same {l : Ln} (hl : LB l) (s q : Int) : ∃ x y, N12 (l, s, q, ()) = some (x, y, ()) ∧ N13 (l, s, q, ()) = some (x, y, ()) := by
  cases hf : fitB s q with
  | false => exact ⟨0, 1, lFlip_no hf, rFlip_no hf⟩
  | true =>
    cases hb : spanBad l s with
    | true => exact ⟨0, 10, lFlip_over hl hf hb, rFlip_over hl hf hb⟩
    | false =>
      obtain ⟨x, e, f⟩ := lFlip_at hl hf hb
      obtain ⟨y, e2, f2⟩ := rFlip_at hl hf hb
      have := f.unique f2
      subst this
      exact ⟨x, 0, e, e2⟩
theorem pureLineTurns : PLineTurns := by
  intro ⟨⟨a0, a1⟩, ⟨b0, b1⟩, ⟨c0, c1⟩⟩ s l ha hs ⟨hl, hq⟩
  have hL : LB ((a0, a1), (b0, b1), (c0, c1)) := ha
  have hb : Program.bytesOf Try.prog 2 = 8 := by kernel_rfl
  rw [hb] at hl
  unfold N4 M4
  simp only []
  rw [awake_yes]
  simp only [Option.bind_some, Bool.not_true, cond_false]
  obtain ⟨y, h1, h2⟩ := itrs_inv (ro := R4_0) (fun z => ∃ j : Nat, j ≤ l.length ∧ z = (s, l, ((a0, a1), (b0, b1), (c0, c1), ()), (j : Int), ())) (fun z => l.length - (z.2.2.2.1).toNat) (fun y => y = .inl ()) (fun z ⟨j, hj, e⟩ => by
    subst e
    by_cases hjl : j < l.length ∧ j < 256
    · obtain ⟨hjl, hj2⟩ := hjl
      refine .inl ⟨(s, l, ((a0, a1), (b0, b1), (c0, c1), ()), ((j + 1 : Nat) : Int), ()), ?_, ⟨j + 1, hjl, rfl⟩, ?_⟩
      · obtain ⟨x, y, ex, ey⟩ := flip_same hL s l[j]
        unfold R4_0 Q4_0
        simp only []
        rw [bif_t (decide_eq_true (show (j : Int) < (l.length : Int) by omega)), bif_t (decide_eq_true (show (j : Int) < 256 by omega)), at_get hjl]
        simp only [Option.bind_some]
        rw [ex]
        simp only [Option.bind_some]
        rw [ey]
        simp only [Option.bind_some, bne_self_eq_false, cond_false]
        rw [wsi (by omega)]
        rfl
      · simp only [Int.toNat_natCast]
        omega
    · refine .inr ⟨.inl (), ?_, rfl⟩
      unfold R4_0 Q4_0
      simp only []
      by_cases h1 : j < l.length
      · rw [bif_t (decide_eq_true (show (j : Int) < (l.length : Int) by omega)), bif_f (decide_eq_false (by omega))]
      · rw [bif_f (decide_eq_false (by omega))]) (x := (s, l, ((a0, a1), (b0, b1), (c0, c1), ()), 0, ())) ⟨0, by omega, rfl⟩ (by simp only [Int.toNat_zero]; omega)
  rw [h1, h2]
  rfl
end Go.Proofs.Ytgdnleanagclaaa.E
namespace Go.Proofs.Ytgdnleanagclaaa.E.Row
open Go Go.ChangeShapes Go.WideShapes Go.ChangeAt Go.RowKit Go.Proofs.Ytgdnleanagclaaa
set_option linter.unusedVariables false
set_option maxRecDepth 100000
theorem own : ownKnob Try.prog.godebug = none := by kernel_rfl
theorem laidOut : laidOutB Try.prog = true := by kernel_rfl
theorem came24 : Came κ Try.prog 24 ((.pair (.int .i64) (.int .u64)) : K τ (Int × Int)) W24 := Came.struct Try.underlying24 (by kernel_rfl) (CameFs.cons (o1 := 1) (Q := fun x : Int => (-9223372036854775808 ≤ x ∧ x ≤ 9223372036854775807)) rfl (by kernel_rfl) rfl (Came.i64 Try.underlying2) (CameFs.one (Q := fun x : Int => (0 ≤ x ∧ x ≤ 18446744073709551615)) rfl (by kernel_rfl) (Came.u64 Try.underlying22)))
theorem came26 : Came κ Try.prog 26 ((.pair (.pair (.int .i64) (.int .u64)) (.pair (.pair (.int .i64) (.int .u64)) (.pair (.int .i64) (.int .u64)))) : K τ ((Int × Int) × ((Int × Int) × (Int × Int)))) W26 := Came.struct Try.underlying26 (by kernel_rfl) (CameFs.cons (o1 := 2) (Q := fun x : (Int × Int) => W24 x) rfl (by kernel_rfl) rfl came24 (CameFs.cons (o1 := 4) (Q := fun x : (Int × Int) => W24 x) rfl (by kernel_rfl) rfl came24 (CameFs.one (Q := fun x : (Int × Int) => W24 x) rfl (by kernel_rfl) came24)))
theorem came27 : Came κ Try.prog 27 (.sl (τ := τ) 2) (fun a : (List Int) => (List.length a * Program.bytesOf Try.prog 2 ≤ 140737488351232 ∧ ∀ x ∈ a, (-9223372036854775808 ≤ x ∧ x ≤ 9223372036854775807))) := Came.slice (κ := κ) (e := 2) (Q := fun x : Int => (-9223372036854775808 ≤ x ∧ x ≤ 9223372036854775807)) Try.underlying27 (by kernel_rfl) (by kernel_rfl) rfl (show Came κ Try.prog 2 (κ 2) (fun x : Int => (-9223372036854775808 ≤ x ∧ x ≤ 9223372036854775807)) from (Came.i64 Try.underlying2))
theorem lifted (os : Os) (started : os.Started) (H : Type) (enc : TypeId × Value → H) :
    ReturnsInHanded {} Try.checked os 4 .any (Rows.lineTurnsSpec.pre6 enc Try.prog Try.f4 Rows.lineTurnsRow.domain false) (Rows.lineTurnsSpec.post enc Try.prog Try.f4 false true false false) := by
  refine returnsInHanded_of_change_sized (C := Try.checked) own started (by kernel_rfl) Try.func4
    (ChangeSpec.witness6 (enc := enc) (C := Try.checked) false ⟨#[], #[(.agg #[(.int .i64 0), (.int .u64 0), (.int .i64 0), (.int .u64 0), (.int .i64 0), (.int .u64 0)]), (.int .i64 0), (.slice none 0 0)], []⟩ 8 (by kernel_rfl) (by kernel_rfl) (by kernel_rfl) (by kernel_rfl)) ?_
  intro W base args ds gs before hval0 hW hcnd hsz0 _
  have hsz : (DataW.weightsEach Try.prog (Try.f4.params.toList ++ Rows.lineTurnsSpec.plain.varTypes Try.prog) (ds ++ gs)).all (· ≤ reachBytes) = true := hsz0
  have hval : ∀ (j : Nat) t v, Try.f4.params[j]? = some t → args[j]? = some v → Value.okWide Try.prog W .any base t v := hval0
  have hW' := hW
  obtain ⟨p, q, hA0, hV, rfl, hfz, hnd⟩ := hW
  have hA : DataW.TrodAll enc Try.prog W 0 (fun _ => true) true Try.f4.params.toList args.toList ds p := hA0
  rw [Try.params4] at hA hval hsz
  obtain ⟨v0, vs0, d0, ds0, p0, q0, hargs, rfl, rfl, h0, r0⟩ := trodAll_cons hA
  obtain ⟨v1, vs1, d1, ds1, p1, q1, rfl, rfl, rfl, h1, r1⟩ := trodAll_cons r0
  obtain ⟨v2, vs2, d2, ds2, p2, q2, rfl, rfl, rfl, h2, r2⟩ := trodAll_cons r1
  obtain ⟨rfl, rfl, rfl⟩ := trodAll_nil r2
  obtain rfl : args = #[v0, v1, v2] := by cases args; simp_all
  obtain ⟨rfl, rfl⟩ := trodVars_none hV
  have hwt : ∀ (j : Nat) t d, [26, 2, 27][j]? = some t → [d0, d1, d2][j]? = some d → ∀ n ∈ DataW.weights Try.prog t d, n ≤ reachBytes := fun j t d h1 h2 n hn => by
    have := List.all_eq_true.1 hsz n (weights_each (j := j) (by simpa using (List.getElem?_append_left (l₂ := Rows.lineTurnsSpec.plain.varTypes Try.prog) (List.getElem?_eq_some_iff.1 h1).1).trans h1) (by simpa using h2) n hn)
    simpa using this
  have lt0 : ∀ x ∈ p0, x.block < W.heap.size := by obtain ⟨m, hm⟩ := h0; exact DataW.trod_lt m _ _ _ hm
  obtain ⟨a0, e0, y0⟩ := arg_agg Try.underlying26 rfl came26 (hval 0 26 v0 rfl rfl) h0 (hwt 0 26 d0 rfl rfl)
  have lt1 : ∀ x ∈ p1, x.block < W.heap.size := by obtain ⟨m, hm⟩ := h1; exact DataW.trod_lt m _ _ _ hm
  obtain ⟨a1, e1, y1⟩ := arg_int Try.underlying2 (Came.i64 Try.underlying2) (hval 1 2 v1 rfl rfl) h1 (hwt 1 2 d1 rfl rfl)
  have lt2 : ∀ x ∈ p2, x.block < W.heap.size := by obtain ⟨m, hm⟩ := h2; exact DataW.trod_lt m _ _ _ hm
  obtain ⟨a2, e2, y2⟩ := arg_slice Try.underlying27 came27 (hval 2 27 v2 rfl rfl) h2 (hwt 2 27 d2 rfl rfl)
  have hp : N4 (a0, a1, a2, ()) = some (true, ()) := pureLineTurns a0 a1 a2 y0 y1 y2
  refine (law_calls (i := i4) (n := N4) (F := Try.f4) (code := bodyOf Try.f4) s4 (by kernel_rfl) Try.func4 (by kernel_rfl) (by kernel_rfl) hp (argsK_cons e0 (argsK_cons e1 (argsK_cons e2 argsK_nil)))).mono fun e W' ⟨he, bel⟩ => ?_
  subst he
  exact ⟨_, rfl, _, _, _, [], _, [], hW', trodAll_mk1 (shut_bool Try.underlying4 _), (trodAll_cons_mk (Below.trod laidOut (by kernel_rfl) (of_decide_eq_true (by kernel_rfl)) h0 bel lt0) (trodAll_cons_mk (Below.trod laidOut (by kernel_rfl) (of_decide_eq_true (by kernel_rfl)) h1 bel lt1) (trodAll_cons_mk (Below.trod laidOut (by kernel_rfl) (of_decide_eq_true (by kernel_rfl)) h2 bel lt2) trodAll_mk0))), rfl, bel.frame _, fun h => by cases h⟩
theorem over : Rows.lineTurnsRow.holds Try.pinned (OpenSpec.ofChange Rows.lineTurnsSpec) :=
  OpenClaim.holds_of_wide 4 Try.f4 rfl rfl rfl rfl rfl rfl rfl ⟨rfl, rfl, rfl, rfl, rfl⟩ rfl rfl rfl rfl rfl (by kernel_rfl) Try.func4 (by kernel_rfl)
    (of_decide_eq_true (by kernel_rfl)) (by unfold Func.isWrapper; first | (rw [if_pos (by decide +kernel)]; kernel_rfl) | (rw [if_neg (by decide +kernel)]; exact ⟨rfl, rfl⟩))
    (fun os started H enc _ => lifted os started H enc)
theorem proved : Rows.LineTurnsSaid := over
end Go.Proofs.Ytgdnleanagclaaa.E.Row
namespace Go.Proofs.Ytgdnleanagclaaa
/-- The row, under a short name, for the claim. -/
theorem lineTurns_holds : Rows.LineTurnsSaid := Ytgdnleanagclaaa.E.Row.proved
#print axioms lineTurns_holds
end Go.Proofs.Ytgdnleanagclaaa
