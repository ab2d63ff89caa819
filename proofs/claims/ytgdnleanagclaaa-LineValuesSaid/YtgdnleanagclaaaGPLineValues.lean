/- The statement LineValues for every input: the plain facts on the functions' results, and the row. No condition. -/
import Derived.Test.YtgdnleanagclaaaGF0
import Derived.Test.YtgdnleanagclaaaGE1
import Derived.Test.YtgdnleanagclaaaRows
import Derived.Test.YtgdnleanagclaaaChecked
namespace Go.Proofs.Ytgdnleanagclaaa.E
open Go
def W24 (a : (Int × Int)) : Prop := (-9223372036854775808 ≤ a.1 ∧ a.1 ≤ 9223372036854775807) ∧ (0 ≤ a.2 ∧ a.2 ≤ 18446744073709551615)
def W26 (a : ((Int × Int) × ((Int × Int) × (Int × Int)))) : Prop := W24 a.1 ∧ W24 a.2.1 ∧ W24 a.2.2
def PLineValues : Prop := ∀ (a0 : ((Int × Int) × ((Int × Int) × (Int × Int)))) (a1 : Int) (a2 : (List Int)), W26 a0 → (-9223372036854775808 ≤ a1 ∧ a1 ≤ 9223372036854775807) → (List.length a2 * Program.bytesOf Try.prog 2 ≤ 140737488351232 ∧ ∀ x ∈ a2, (-9223372036854775808 ≤ x ∧ x ≤ 9223372036854775807)) → N3 (a0, a1, a2, ()) = some (true, ())
end Go.Proofs.Ytgdnleanagclaaa.E
namespace Go.Proofs.Ytgdnleanagclaaa.E
open Go
set_option linter.unusedVariables false
theorem wAdd {a0 a1 b0 b1 : Int} (ha : WB a0 a1) (hb : WB b0 b1) : N29 ((a0, a1), (b0, b1), ()) = some (wans (wv a0 a1 + wv b0 b1)) := by
  obtain ⟨⟨p1, p2⟩, p3, p4⟩ := ha
  obtain ⟨⟨q1, q2⟩, q3, q4⟩ := hb
  unfold N29 M29
  simp only []
  rw [add64_f ⟨p3, p4⟩ ⟨q3, q4⟩ (by omega)]
  simp only [Option.bind_some, wu, ws]
  rw [add64_f (by omega) (by omega) (by omega)]
  simp only [Option.bind_some]
  unfold wans wv
  simp only [bif_not, bif_iff]
  (repeat' split) <;> first | rfl | (exfalso; omega) | (congr 3 <;> omega) | (congr 2 <;> omega)
theorem wSub {a0 a1 b0 b1 : Int} (ha : WB a0 a1) (hb : WB b0 b1) : N47 ((a0, a1), (b0, b1), ()) = some (wans (wv a0 a1 - wv b0 b1)) := by
  obtain ⟨⟨p1, p2⟩, p3, p4⟩ := ha
  obtain ⟨⟨q1, q2⟩, q3, q4⟩ := hb
  unfold N47 M47
  simp only []
  rw [sub64_f ⟨p3, p4⟩ ⟨q3, q4⟩ (by omega)]
  simp only [Option.bind_some, wu, ws]
  rw [sub64_f (by omega) (by omega) (by omega)]
  simp only [Option.bind_some]
  unfold wans wv
  simp only [bif_not, bif_iff]
  (repeat' split) <;> first | rfl | (exfalso; omega) | (congr 3 <;> omega) | (congr 2 <;> omega)
theorem wNeg {a0 a1 : Int} (ha : WB a0 a1) : N49 ((a0, a1), ()) = some (wans (-wv a0 a1)) := by
  unfold N49 M49
  simp only []
  rw [wSub WB_zero ha, show wv 0 0 - wv a0 a1 = -wv a0 a1 from by unfold wv; omega]
  rfl
theorem wOf {a : Int} (h : -9223372036854775808 ≤ a ∧ a ≤ 9223372036854775807) : N22 (a, ()) = some ((a / 18446744073709551616, a % 18446744073709551616), ()) := by
  unfold N22 M22
  simp only [wu]
  rw [fdiv_pos (by omega), show a / 9223372036854775808 = a / 18446744073709551616 from by omega]
theorem wAbs {h l : Int} (b : WB h l) : N51 ((h, l), ()) = some (wabs (wv h l) / 18446744073709551616, wabs (wv h l) % 18446744073709551616, ()) := by
  obtain ⟨⟨p1, p2⟩, p3, p4⟩ := b
  unfold N51 M51 wabs
  simp only [wu, bif_p]
  by_cases h0 : h ≥ 0
  · rw [if_pos h0, if_neg (by unfold wv; omega)]
    unfold wv
    congr 2 <;> first | omega | (congr 1; omega)
  · rw [if_neg h0, if_pos (by unfold wv; omega), sub64_f (by omega) (by omega) (by omega)]
    simp only [Option.bind_some]
    rw [sub64_f (by omega) (by omega) (by omega)]
    simp only [Option.bind_some]
    unfold wv
    congr 2 <;> first | omega | (congr 1; omega)
theorem wJoin (neg : Bool) {hi lo : Int} (h1 : 0 ≤ hi ∧ hi ≤ 18446744073709551615) (h2 : 0 ≤ lo ∧ lo ≤ 18446744073709551615) :
    N55 (neg, hi, lo, ()) = some (wans (if neg = true then -(hi * 18446744073709551616 + lo) else hi * 18446744073709551616 + lo)) := by
  unfold N55 M55
  simp only []
  rw [fdiv_pos (by omega)]
  by_cases h0 : hi / 9223372036854775808 = 0
  · rw [bif_t (by simpa using h0), wsi (by omega)]
    have b : WB hi lo := by unfold WB; omega
    cases neg with
    | true =>
      rw [bif_t rfl, if_pos rfl, wNeg b]
      rfl
    | false =>
      rw [bif_f rfl, if_neg (by simp)]
      have := wans_wv b
      unfold wv at this
      rw [this]
  · rw [bif_f (by simpa using h0)]
    cases neg with
    | true =>
      rw [bif_t rfl, if_pos rfl]
      unfold wans
      by_cases e1 : hi = 9223372036854775808
      · rw [bif_t (by simpa using e1)]
        by_cases e2 : lo = 0
        · rw [bif_t (by simpa using e2), if_pos (by omega)]
          subst e1 e2
          rfl
        · rw [bif_f (by simpa using e2), if_neg (by omega)]
      · rw [bif_f (by simpa using e1), if_neg (by omega)]
    | false =>
      rw [bif_f rfl, if_neg (by simp)]
      unfold wans
      rw [if_neg (by omega)]
end Go.Proofs.Ytgdnleanagclaaa.E
namespace Go.Proofs.Ytgdnleanagclaaa.E
open Go
set_option linter.unusedVariables false
theorem wSign {h l : Int} (b : WB h l) : N35 ((h, l), ()) = some (cmpv (wv h l) 0, ()) := by
  unfold N35 M35 cmpv
  simp only [bif_p, bif_and, bif_eq]
  unfold WB at b
  unfold wv
  (repeat' split) <;> first | rfl | (exfalso; omega)
theorem wCmp {a0 a1 b0 b1 : Int} (ha : WB a0 a1) (hb : WB b0 b1) : N34 ((a0, a1), (b0, b1), ()) = some (cmpv (wv a0 a1) (wv b0 b1), ()) := by
  obtain ⟨⟨p1, p2⟩, p3, p4⟩ := ha
  obtain ⟨⟨q1, q2⟩, q3, q4⟩ := hb
  unfold N34 M34 cmpv wv
  simp only [bif_p, bif_and, bif_eq]
  (repeat' split) <;> first | rfl | (exfalso; omega)
end Go.Proofs.Ytgdnleanagclaaa.E
namespace Go.Proofs.Ytgdnleanagclaaa.E
open Go
set_option linter.unusedVariables false
set_option maxRecDepth 100000
/-- The number of a row of digits, the lowest first. -/
def dv : List Int → Int
  | [] => 0
  | x :: r => x + 65536 * dv r
def D16 (x : Int) : Prop := 0 ≤ x ∧ x ≤ 65535
def Long (l : List Int) (V : Int) : Prop := l.length = 12 ∧ (∀ x ∈ l, D16 x) ∧ dv l = V
theorem Long.open {l : List Int} {V : Int} (h : Long l V) : ∃ d0 d1 d2 d3 d4 d5 d6 d7 d8 d9 d10 d11, l = [d0, d1, d2, d3, d4, d5, d6, d7, d8, d9, d10, d11] ∧ D16 d0 ∧ D16 d1 ∧ D16 d2 ∧ D16 d3 ∧ D16 d4 ∧ D16 d5 ∧ D16 d6 ∧ D16 d7 ∧ D16 d8 ∧ D16 d9 ∧ D16 d10 ∧ D16 d11 ∧
    V = d0 + 65536 * (d1 + 65536 * (d2 + 65536 * (d3 + 65536 * (d4 + 65536 * (d5 + 65536 * (d6 + 65536 * (d7 + 65536 * (d8 + 65536 * (d9 + 65536 * (d10 + 65536 * (d11 + 65536 * 0))))))))))) := by
  obtain ⟨h1, h2, h3⟩ := h
  match l, h1 with
  | [d0, d1, d2, d3, d4, d5, d6, d7, d8, d9, d10, d11], _ =>
    simp only [List.mem_cons, List.not_mem_nil, or_false, forall_eq_or_imp, forall_eq] at h2
    exact ⟨d0, d1, d2, d3, d4, d5, d6, d7, d8, d9, d10, d11, rfl, h2.1, h2.2.1, h2.2.2.1, h2.2.2.2.1, h2.2.2.2.2.1, h2.2.2.2.2.2.1, h2.2.2.2.2.2.2.1, h2.2.2.2.2.2.2.2.1, h2.2.2.2.2.2.2.2.2.1, h2.2.2.2.2.2.2.2.2.2.1, h2.2.2.2.2.2.2.2.2.2.2.1, h2.2.2.2.2.2.2.2.2.2.2.2, h3.symm⟩
theorem Long.in {l : List Int} {V : Int} (h : Long l V) : 0 ≤ V ∧ V ≤ 6277101735386680763835789423207666416102355444464034512895 := by
  obtain ⟨d0, d1, d2, d3, d4, d5, d6, d7, d8, d9, d10, d11, rfl, k0, k1, k2, k3, k4, k5, k6, k7, k8, k9, k10, k11, e⟩ := h.open
  unfold D16 at *
  omega
/-! ### sums -/
/-- A sum with its carry. -/
def addc : Int → List Int → List Int → List Int
  | c, x :: xs, y :: ys =>
    Int.tmod (IntKind.wrap .u64 (IntKind.wrap .u64 (c + x) + y)) 65536 :: addc (IntKind.wrap .u64 (Int.tdiv (IntKind.wrap .u64 (IntKind.wrap .u64 (c + x) + y)) 65536)) xs ys
  | _, _, _ => []
theorem addc_spec : ∀ (xs ys : List Int) (c : Int), (∀ x ∈ xs, D16 x) → (∀ y ∈ ys, D16 y) → xs.length = ys.length → 0 ≤ c ∧ c ≤ 1 → (addc c xs ys).length = xs.length ∧ (∀ z ∈ addc c xs ys, D16 z) ∧ ∃ k, 0 ≤ k ∧ k ≤ 1 ∧ dv (addc c xs ys) + 65536 ^ xs.length * k = c + dv xs + dv ys
  | [], [], c, _, _, _, hc => ⟨rfl, (fun z hz => by cases hz), c, hc.1, hc.2, by simp [addc, dv]⟩
  | x :: xs, y :: ys, c, hx, hy, hl, hc => by
    have hx0 := hx x (by simp)
    have hy0 := hy y (by simp)
    unfold D16 at hx0 hy0
    have e1 : IntKind.wrap .u64 (IntKind.wrap .u64 (c + x) + y) = c + x + y := by rw [wui (n := c + x) (by omega), wui (by omega)]
    have e2 : IntKind.wrap .u64 (Int.tdiv (c + x + y) 65536) = (c + x + y) / 65536 := by rw [tdiv_pos (by omega), wui (by omega)]
    obtain ⟨i1, i2, k, k0, k1, k2⟩ := addc_spec xs ys ((c + x + y) / 65536) (fun z hz => hx z (by simp [hz])) (fun z hz => hy z (by simp [hz])) (by simpa using hl) (by omega)
    unfold addc
    rw [e1, e2, tmod_pos (by omega)]
    refine ⟨by simp [i1], fun z hz => ?_, k, k0, k1, ?_⟩
    · rcases List.mem_cons.1 hz with rfl | hz
      · unfold D16; omega
      · exact i2 z hz
    · simp only [dv, List.length_cons, Int.pow_succ]
      generalize (65536 : Int) ^ xs.length = p at *
      have : p * 65536 * k = 65536 * (p * k) := by grind
      rw [this]
      generalize p * k = q at *
      omega
theorem rPlus {a b : List Int} {A B : Int} (ha : Long a A) (hb : Long b B) : ∃ l, N60 (a, b, ()) = some (l, ()) ∧ Long l ((A + B) % 6277101735386680763835789423207666416102355444464034512896) := by
  have hlen : a.length = 12 := ha.1
  obtain ⟨h1, h2, k, k0, k1, k2⟩ := addc_spec a b 0 ha.2.1 hb.2.1 (ha.1.trans hb.1.symm) (by omega)
  refine ⟨addc 0 a b, ?_, h1.trans ha.1, h2, ?_⟩
  · unfold N60 M60
    obtain ⟨a0, a1, a2, a3, a4, a5, a6, a7, a8, a9, a10, a11, rfl, _⟩ := ha.open
    obtain ⟨b0, b1, b2, b3, b4, b5, b6, b7, b8, b9, b10, b11, rfl, _⟩ := hb.open
    have : itrs R60_0 ([a0, a1, a2, a3, a4, a5, a6, a7, a8, a9, a10, a11], [b0, b1, b2, b3, b4, b5, b6, b7, b8, b9, b10, b11], List.replicate 12 0, 0, 0, ()) = some (addc 0 [a0, a1, a2, a3, a4, a5, a6, a7, a8, a9, a10, a11] [b0, b1, b2, b3, b4, b5, b6, b7, b8, b9, b10, b11], List.replicate 12 0, ()) := itrs_of (n := 13) (by kernel_rfl) (by omega)
    simp only [this, Option.bind_some]
  · have hv : Long (addc 0 a b) (dv (addc 0 a b)) := ⟨h1.trans ha.1, h2, rfl⟩
    have := hv.in
    rw [hlen, ha.2.2, hb.2.2, show (65536 : Int) ^ 12 = 6277101735386680763835789423207666416102355444464034512896 from by decide] at k2
    omega
/-! ### opposites -/
def turn : List Int → List Int
  | [] => []
  | x :: xs => IntKind.wrap .u64 (65535 - x) :: turn xs
theorem turn_spec : ∀ (xs : List Int), (∀ x ∈ xs, D16 x) → (turn xs).length = xs.length ∧ (∀ z ∈ turn xs, D16 z) ∧ dv (turn xs) + dv xs + 1 = 65536 ^ xs.length
  | [], _ => ⟨rfl, (fun z hz => by cases hz), by simp [turn, dv]⟩
  | x :: xs, hx => by
    have hx0 := hx x (by simp)
    unfold D16 at hx0
    obtain ⟨i1, i2, i3⟩ := turn_spec xs fun z hz => hx z (by simp [hz])
    unfold turn
    rw [wui (by omega)]
    refine ⟨by simp [i1], fun z hz => ?_, ?_⟩
    · rcases List.mem_cons.1 hz with rfl | hz
      · unfold D16; omega
      · exact i2 z hz
    · simp only [dv, List.length_cons, Int.pow_succ]
      omega
theorem Long_one : Long [1, 0, 0, 0, 0, 0, 0, 0, 0, 0, 0, 0] 1 := by
  refine ⟨rfl, ?_, rfl⟩
  simp [D16]
theorem rTurned {a : List Int} {A : Int} (ha : Long a A) : ∃ l, N63 (a, ()) = some (l, ()) ∧ Long l ((-A) % 6277101735386680763835789423207666416102355444464034512896) := by
  obtain ⟨h1, h2, h3⟩ := turn_spec a ha.2.1
  rw [ha.1, ha.2.2, show (65536 : Int) ^ 12 = 6277101735386680763835789423207666416102355444464034512896 from by decide] at h3
  obtain ⟨l, k1, k2⟩ := rPlus ⟨h1.trans ha.1, h2, rfl⟩ Long_one
  refine ⟨l, ?_, ?_⟩
  · obtain ⟨a0, a1, a2, a3, a4, a5, a6, a7, a8, a9, a10, a11, rfl, _⟩ := ha.open
    unfold N63 M63
    have : itrs R63_0 ([a0, a1, a2, a3, a4, a5, a6, a7, a8, a9, a10, a11], List.replicate 12 0, 0, ()) = some (turn [a0, a1, a2, a3, a4, a5, a6, a7, a8, a9, a10, a11], List.replicate 12 0, ()) := itrs_of (n := 13) (by kernel_rfl) (by omega)
    simp only [this, Option.bind_some, k1]
  · have hA := ha.in
    rw [show -A = dv (turn a) + 1 + (-1) * 6277101735386680763835789423207666416102355444464034512896 from by omega]
    rw [show (dv (turn a) + 1 + (-1) * 6277101735386680763835789423207666416102355444464034512896) % 6277101735386680763835789423207666416102355444464034512896 = (dv (turn a) + 1) % 6277101735386680763835789423207666416102355444464034512896 from by omega]
    exact k2
/-! ### a number's digits -/
/-- A number of twelve digits for any number. -/
def long (v : Int) : Int := v % 6277101735386680763835789423207666416102355444464034512896
theorem sh_eq {x : Int} {n : Nat} {m : Int} (h : (2 : Int) ^ n = m) (hm : 0 ≤ m) : Int.fdiv x (2 ^ n) = x / m := by rw [h, fdiv_pos hm]
theorem sh_0 (x : Int) : Int.fdiv x (2 ^ 0) = x / 1 := sh_eq (by decide) (by omega)
theorem sh_16 (x : Int) : Int.fdiv x (2 ^ 16) = x / 65536 := sh_eq (by decide) (by omega)
theorem sh_32 (x : Int) : Int.fdiv x (2 ^ 32) = x / 4294967296 := sh_eq (by decide) (by omega)
theorem sh_48 (x : Int) : Int.fdiv x (2 ^ 48) = x / 281474976710656 := sh_eq (by decide) (by omega)
theorem rDigits {h l : Int} (b : WB h l) : ∃ d, N61 ((h, l), ()) = some (d, ()) ∧ Long d (long (wv h l)) := by
  have L1 : itrs R61_0 ((h, l, ()), List.replicate 12 0, List.replicate 12 0, 0, ()) = some ((h, l, ()), List.replicate 12 0, [Int.tmod (Int.fdiv l (2 ^ 0)) 65536, Int.tmod (Int.fdiv l (2 ^ 16)) 65536, Int.tmod (Int.fdiv l (2 ^ 32)) 65536, Int.tmod (Int.fdiv l (2 ^ 48)) 65536, Int.tmod (Int.fdiv (IntKind.wrap .u64 h) (2 ^ 0)) 65536, Int.tmod (Int.fdiv (IntKind.wrap .u64 h) (2 ^ 16)) 65536, Int.tmod (Int.fdiv (IntKind.wrap .u64 h) (2 ^ 32)) 65536, Int.tmod (Int.fdiv (IntKind.wrap .u64 h) (2 ^ 48)) 65536, 0, 0, 0, 0], ()) := itrs_of (n := 5) (by kernel_rfl) (by omega)
  obtain ⟨⟨p1, p2⟩, p3, p4⟩ := b
  have hw : 0 ≤ IntKind.wrap .u64 h ∧ IntKind.wrap .u64 h ≤ 18446744073709551615 := by rw [wu]; omega
  have hh := wu h
  unfold N61 M61
  simp only [L1, Option.bind_some]
  generalize IntKind.wrap .u64 h = u at *
  rw [sh_0, sh_16, sh_32, sh_48, sh_0, sh_16, sh_32, sh_48]
  rw [tmod_pos (by omega), tmod_pos (by omega), tmod_pos (by omega), tmod_pos (by omega), tmod_pos (by omega), tmod_pos (by omega), tmod_pos (by omega), tmod_pos (by omega)]
  by_cases hn : h < 0
  · rw [bif_t (decide_eq_true hn)]
    have L2 : ∀ t d0 d1 d2 d3 d4 d5 d6 d7, itrs R61_2 (t, [d0, d1, d2, d3, d4, d5, d6, d7, 0, 0, 0, 0], 8, ()) = some (t, [d0, d1, d2, d3, d4, d5, d6, d7, 65535, 65535, 65535, 65535], ()) := fun t d0 d1 d2 d3 d4 d5 d6 d7 => itrs_of (n := 5) (by kernel_rfl) (by omega)
    rw [L2]
    refine ⟨_, rfl, rfl, ?_, ?_⟩
    · simp only [List.mem_cons, List.not_mem_nil, or_false, forall_eq_or_imp, forall_eq, D16]
      omega
    · simp only [dv, long, wv]
      omega
  · rw [bif_f (decide_eq_false hn)]
    refine ⟨_, rfl, rfl, ?_, ?_⟩
    · simp only [List.mem_cons, List.not_mem_nil, or_false, forall_eq_or_imp, forall_eq, D16]
      omega
    · simp only [dv, long, wv]
      omega
theorem horner {d0 d1 d2 d3 : Int} (h0 : D16 d0) (h1 : D16 d1) (h2 : D16 d2) (h3 : D16 d3) :
    IntKind.wrap .u64 (IntKind.wrap .u64 (IntKind.wrap .u64 (IntKind.wrap .u64 (IntKind.wrap .u64 (IntKind.wrap .u64 (IntKind.wrap .u64 (IntKind.wrap .u64 (0 * 65536) + d3) * 65536) + d2) * 65536) + d1) * 65536) + d0) = d0 + 65536 * (d1 + 65536 * (d2 + 65536 * d3)) := by
  unfold D16 at *
  rw [wui (n := 0 * 65536) (by omega), wui (n := 0 * 65536 + d3) (by omega), wui (n := (0 * 65536 + d3) * 65536) (by omega), wui (n := (0 * 65536 + d3) * 65536 + d2) (by omega), wui (n := ((0 * 65536 + d3) * 65536 + d2) * 65536) (by omega), wui (n := ((0 * 65536 + d3) * 65536 + d2) * 65536 + d1) (by omega), wui (n := (((0 * 65536 + d3) * 65536 + d2) * 65536 + d1) * 65536) (by omega), wui (by omega)]
  omega
theorem rAbs {h l : Int} (b : WB h l) : N57 ((h, l), ()) = some (wabs (wv h l) / 18446744073709551616, wabs (wv h l) % 18446744073709551616, ()) := by
  have hv := wv_in b
  obtain ⟨d, k1, k2⟩ := rDigits b
  unfold N57 M57
  simp only [k1, Option.bind_some]
  have read : ∀ (d : List Int) (V : Int), Long d V → V ≤ 170141183460469231731687303715884105728 → ((itrs R57_0 (d, 0, 0, 3, ())).bind fun ⟨y4_0, ⟨y4_1, ()⟩⟩ => (some (y4_0, (y4_1, ())))) = some (V / 18446744073709551616, V % 18446744073709551616, ()) := by
    intro d V hd hV
    obtain ⟨d0, d1, d2, d3, d4, d5, d6, d7, d8, d9, d10, d11, rfl, g0, g1, g2, g3, g4, g5, g6, g7, g8, g9, g10, g11, e⟩ := hd.open
    have L : itrs R57_0 ([d0, d1, d2, d3, d4, d5, d6, d7, d8, d9, d10, d11], 0, 0, 3, ()) = some (IntKind.wrap .u64 (IntKind.wrap .u64 (IntKind.wrap .u64 (IntKind.wrap .u64 (IntKind.wrap .u64 (IntKind.wrap .u64 (IntKind.wrap .u64 (IntKind.wrap .u64 (0 * 65536) + d7) * 65536) + d6) * 65536) + d5) * 65536) + d4), IntKind.wrap .u64 (IntKind.wrap .u64 (IntKind.wrap .u64 (IntKind.wrap .u64 (IntKind.wrap .u64 (IntKind.wrap .u64 (IntKind.wrap .u64 (IntKind.wrap .u64 (0 * 65536) + d3) * 65536) + d2) * 65536) + d1) * 65536) + d0), ()) := itrs_of (n := 5) (by kernel_rfl) (by omega)
    rw [L, horner g0 g1 g2 g3, horner g4 g5 g6 g7]
    unfold D16 at *
    simp only [Option.bind_some]
    congr 2
    · omega
    · congr 1; omega
  have below : N64 (d, ()) = some (decide (wv h l < 0), ()) := by
    obtain ⟨d0, d1, d2, d3, d4, d5, d6, d7, d8, d9, d10, d11, rfl, g0, g1, g2, g3, g4, g5, g6, g7, g8, g9, g10, g11, e⟩ := k2.open
    show some (decide (d11 ≥ 32768), ()) = _
    unfold D16 at *
    unfold long at e
    congr 2
    rw [decide_eq_decide]
    omega
  rw [below]
  simp only [Option.bind_some, bif_p]
  by_cases hn : wv h l < 0
  · obtain ⟨d', j1, j2⟩ := rTurned k2
    rw [if_pos hn, j1]
    simp only [Option.bind_some]
    have := read d' _ j2 (by unfold long; omega)
    rw [show wabs (wv h l) = (-(long (wv h l))) % 6277101735386680763835789423207666416102355444464034512896 from by unfold wabs long; rw [if_pos hn]; omega]
    exact this
  · rw [if_neg hn]
    have := read d _ k2 (by unfold long; omega)
    rw [show wabs (wv h l) = long (wv h l) from by unfold wabs long; rw [if_neg hn]; omega]
    exact this
end Go.Proofs.Ytgdnleanagclaaa.E
namespace Go.Proofs.Ytgdnleanagclaaa.E
open Go
set_option linter.unusedVariables false
set_option maxRecDepth 100000
theorem long_in (v : Int) : 0 ≤ long v ∧ long v ≤ 6277101735386680763835789423207666416102355444464034512895 := by unfold long; omega
theorem rWide {l : List Int} {v : Int} (hv : -3138550867693340381917894711603833208051177722232017256448 ≤ v ∧ v < 3138550867693340381917894711603833208051177722232017256448) (h : Long l (long v)) : N67 (l, ()) = some (if inR v then ((v / 18446744073709551616, v % 18446744073709551616), true, ()) else ((0, 0), false, ())) := by
  obtain ⟨d0, d1, d2, d3, d4, d5, d6, d7, d8, d9, d10, d11, rfl, g0, g1, g2, g3, g4, g5, g6, g7, g8, g9, g10, g11, e⟩ := h.open
  unfold long at e
  have L2 : ∀ z, itrs R67_2 ([d0, d1, d2, d3, d4, d5, d6, d7, d8, d9, d10, d11], z, 0, 0, 3, ()) = some (z, IntKind.wrap .u64 (IntKind.wrap .u64 (IntKind.wrap .u64 (IntKind.wrap .u64 (IntKind.wrap .u64 (IntKind.wrap .u64 (IntKind.wrap .u64 (IntKind.wrap .u64 (0 * 65536) + d3) * 65536) + d2) * 65536) + d1) * 65536) + d0), IntKind.wrap .u64 (IntKind.wrap .u64 (IntKind.wrap .u64 (IntKind.wrap .u64 (IntKind.wrap .u64 (IntKind.wrap .u64 (IntKind.wrap .u64 (IntKind.wrap .u64 (0 * 65536) + d7) * 65536) + d6) * 65536) + d5) * 65536) + d4), ()) := fun ⟨z0, z1, ()⟩ => itrs_of (n := 5) (by kernel_rfl) (by omega)
  have L0 : ∀ z top, itrs R67_0 ([d0, d1, d2, d3, d4, d5, d6, d7, d8, d9, d10, d11], z, top, 8, ()) = bif d8 != top then some (.inr ((0, 0, ()), false, ())) else bif d9 != top then some (.inr ((0, 0, ()), false, ())) else bif d10 != top then some (.inr ((0, 0, ()), false, ())) else bif d11 != top then some (.inr ((0, 0, ()), false, ())) else some (.inl ([d0, d1, d2, d3, d4, d5, d6, d7, d8, d9, d10, d11], z, ())) := by
    intro ⟨z0, z1, ()⟩ top
    have s8 : R67_0 ([d0, d1, d2, d3, d4, d5, d6, d7, d8, d9, d10, d11], (z0, z1, ()), top, 8, ()) = bif d8 != top then some (.inr (.inr ((0, 0, ()), false, ()))) else some (.inl ([d0, d1, d2, d3, d4, d5, d6, d7, d8, d9, d10, d11], (z0, z1, ()), top, 9, ())) := by kernel_rfl
    have s9 : R67_0 ([d0, d1, d2, d3, d4, d5, d6, d7, d8, d9, d10, d11], (z0, z1, ()), top, 9, ()) = bif d9 != top then some (.inr (.inr ((0, 0, ()), false, ()))) else some (.inl ([d0, d1, d2, d3, d4, d5, d6, d7, d8, d9, d10, d11], (z0, z1, ()), top, 10, ())) := by kernel_rfl
    have s10 : R67_0 ([d0, d1, d2, d3, d4, d5, d6, d7, d8, d9, d10, d11], (z0, z1, ()), top, 10, ()) = bif d10 != top then some (.inr (.inr ((0, 0, ()), false, ()))) else some (.inl ([d0, d1, d2, d3, d4, d5, d6, d7, d8, d9, d10, d11], (z0, z1, ()), top, 11, ())) := by kernel_rfl
    have s11 : R67_0 ([d0, d1, d2, d3, d4, d5, d6, d7, d8, d9, d10, d11], (z0, z1, ()), top, 11, ()) = bif d11 != top then some (.inr (.inr ((0, 0, ()), false, ()))) else some (.inl ([d0, d1, d2, d3, d4, d5, d6, d7, d8, d9, d10, d11], (z0, z1, ()), top, 12, ())) := by kernel_rfl
    have s12 : R67_0 ([d0, d1, d2, d3, d4, d5, d6, d7, d8, d9, d10, d11], (z0, z1, ()), top, 12, ()) = some (.inr (.inl ([d0, d1, d2, d3, d4, d5, d6, d7, d8, d9, d10, d11], (z0, z1, ()), ()))) := by kernel_rfl
    refine itrs_eq (n := 5) ?_ (by cases d8 != top <;> cases d9 != top <;> cases d10 != top <;> cases d11 != top <;> rfl) (by omega)
    rw [itr_bif s8, itr_bif s9, itr_bif s10, itr_bif s11, itr_out s12]
  unfold N67 M67
  simp only []
  rw [show [d0, d1, d2, d3, d4, d5, d6, d7, d8, d9, d10, d11][7]? = some d7 from rfl]
  simp only [Option.bind_some, bif_p]
  unfold D16 at *
  have fin : ∀ top : Int, ((bif d8 != top then some (.inr ((0, 0, ()), false, ())) else bif d9 != top then some (.inr ((0, 0, ()), false, ())) else bif d10 != top then some (.inr ((0, 0, ()), false, ())) else bif d11 != top then some (.inr ((0, 0, ()), false, ())) else some (.inl ([d0, d1, d2, d3, d4, d5, d6, d7, d8, d9, d10, d11], (0, 0, ()), ()))) : Option LB67_0) =
      if d8 = top ∧ d9 = top ∧ d10 = top ∧ d11 = top then some (.inl ([d0, d1, d2, d3, d4, d5, d6, d7, d8, d9, d10, d11], (0, 0, ()), ())) else some (.inr ((0, 0, ()), false, ())) := by
    intro top
    simp only [bif_ne]
    (repeat' split) <;> first | rfl | (exfalso; simp_all; done) | (exfalso; omega)
  have H0 := horner g0 g1 g2 g3
  have H1 := horner g4 g5 g6 g7
  by_cases h7 : d7 ≥ 32768
  · rw [if_pos h7, L0, fin]
    by_cases ht : d8 = 65535 ∧ d9 = 65535 ∧ d10 = 65535 ∧ d11 = 65535
    · rw [if_pos ht]
      simp only [Option.bind_some]
      rw [L2]
      simp only [Option.bind_some]
      rw [H0, H1, if_pos (by unfold inR; omega), ws]
      congr 2
      congr 1 <;> omega
    · rw [if_neg ht, if_neg (by unfold inR; omega)]
      rfl
  · rw [if_neg h7, L0, fin]
    by_cases ht : d8 = 0 ∧ d9 = 0 ∧ d10 = 0 ∧ d11 = 0
    · rw [if_pos ht]
      simp only [Option.bind_some]
      rw [L2]
      simp only [Option.bind_some]
      rw [H0, H1, if_pos (by unfold inR; omega), ws]
      congr 2
      congr 1 <;> omega
    · rw [if_neg ht, if_neg (by unfold inR; omega)]
      rfl
theorem rtold {l : List Int} {v : Int} (hv : -3138550867693340381917894711603833208051177722232017256448 ≤ v ∧ v < 3138550867693340381917894711603833208051177722232017256448) (h : Long l (long v)) : N59 (l, ()) = some (wans v) := by
  unfold N59 M59
  simp only [rWide hv h]
  by_cases hr : inR v
  · rw [if_pos hr, wans_in hr]
    rfl
  · rw [if_neg hr, wans_out hr]
    rfl
theorem Long_eq {l : List Int} {V V' : Int} (h : Long l V) (e : V = V') : Long l V' := e ▸ h
theorem rOf {a : Int} (h : -9223372036854775808 ≤ a ∧ a ≤ 9223372036854775807) : N31 (a, ()) = some ((a / 18446744073709551616, a % 18446744073709551616), ()) := by
  unfold N31 M31
  simp only [bif_p, wu]
  by_cases hn : a < 0
  · rw [if_pos hn, show a / 18446744073709551616 = -1 from by omega]
  · rw [if_neg hn, show a / 18446744073709551616 = 0 from by omega]
theorem rJoin (neg : Bool) {hi lo : Int} (h1 : 0 ≤ hi ∧ hi ≤ 18446744073709551615) (h2 : 0 ≤ lo ∧ lo ≤ 18446744073709551615) :
    N58 (neg, hi, lo, ()) = some (wans (if neg = true then -(hi * 18446744073709551616 + lo) else hi * 18446744073709551616 + lo)) := by
  have L0 : ∀ z, itrs R58_0 (neg, hi, lo, z, List.replicate 12 0, 0, ()) = some (neg, z, [Int.tmod (Int.fdiv lo (2 ^ 0)) 65536, Int.tmod (Int.fdiv lo (2 ^ 16)) 65536, Int.tmod (Int.fdiv lo (2 ^ 32)) 65536, Int.tmod (Int.fdiv lo (2 ^ 48)) 65536, Int.tmod (Int.fdiv hi (2 ^ 0)) 65536, Int.tmod (Int.fdiv hi (2 ^ 16)) 65536, Int.tmod (Int.fdiv hi (2 ^ 32)) 65536, Int.tmod (Int.fdiv hi (2 ^ 48)) 65536, 0, 0, 0, 0], ()) := fun ⟨z0, z1, ()⟩ => itrs_of (n := 5) (by kernel_rfl) (by omega)
  unfold N58 M58
  simp only [L0, Option.bind_some]
  rw [sh_0, sh_16, sh_32, sh_48, sh_0, sh_16, sh_32, sh_48]
  rw [tmod_pos (by omega), tmod_pos (by omega), tmod_pos (by omega), tmod_pos (by omega), tmod_pos (by omega), tmod_pos (by omega), tmod_pos (by omega), tmod_pos (by omega)]
  have hL : Long [lo / 1 % 65536, lo / 65536 % 65536, lo / 4294967296 % 65536, lo / 281474976710656 % 65536, hi / 1 % 65536, hi / 65536 % 65536, hi / 4294967296 % 65536, hi / 281474976710656 % 65536, 0, 0, 0, 0] (long (hi * 18446744073709551616 + lo)) := by
    refine ⟨rfl, ?_, ?_⟩
    · simp only [List.mem_cons, List.not_mem_nil, or_false, forall_eq_or_imp, forall_eq, D16]
      omega
    · simp only [dv, long]
      omega
  cases neg with
  | true =>
    obtain ⟨l, k1, k2⟩ := rTurned hL
    rw [bif_t rfl, k1]
    simp only [Option.bind_some]
    rw [rtold (v := -(hi * 18446744073709551616 + lo)) (by omega) (Long_eq k2 (by unfold long; omega))]
    rfl
  | false =>
    rw [bif_f rfl, rtold (by omega) hL]
    rfl
theorem rAdd {a0 a1 b0 b1 : Int} (ha : WB a0 a1) (hb : WB b0 b1) : N33 ((a0, a1), (b0, b1), ()) = some (wans (wv a0 a1 + wv b0 b1)) := by
  obtain ⟨l, k1, k2⟩ := rDigits ha
  obtain ⟨m, j1, j2⟩ := rDigits hb
  obtain ⟨n, i1, i2⟩ := rPlus k2 j2
  have h1 := wv_in ha
  have h2 := wv_in hb
  unfold N33 M33
  simp only [k1, j1, i1, Option.bind_some]
  rw [rtold (v := wv a0 a1 + wv b0 b1) (by omega) (Long_eq i2 (by unfold long; omega))]
  rfl
theorem rSub {a0 a1 b0 b1 : Int} (ha : WB a0 a1) (hb : WB b0 b1) : N48 ((a0, a1), (b0, b1), ()) = some (wans (wv a0 a1 - wv b0 b1)) := by
  obtain ⟨l, k1, k2⟩ := rDigits ha
  obtain ⟨m, j1, j2⟩ := rDigits hb
  obtain ⟨m', t1, t2⟩ := rTurned j2
  obtain ⟨n, i1, i2⟩ := rPlus k2 t2
  have h1 := wv_in ha
  have h2 := wv_in hb
  unfold N48 M48
  simp only [k1, j1, t1, i1, Option.bind_some]
  rw [rtold (v := wv a0 a1 - wv b0 b1) (by omega) (Long_eq i2 (by unfold long; omega))]
  rfl
end Go.Proofs.Ytgdnleanagclaaa.E
namespace Go.Proofs.Ytgdnleanagclaaa.E
open Go
set_option linter.unusedVariables false
theorem and_low {z : Int} (h : 0 ≤ z ∧ z ≤ 18446744073709551615) : IntKind.wrap .u64 ↑(BitVec.toNat (BitVec.ofInt 64 z &&& BitVec.ofInt 64 4294967295)) = z % 4294967296 := and_low32 z h.1 (by omega)
theorem ofInt_toNat {x : Int} (h : 0 ≤ x ∧ x ≤ 18446744073709551615) : ((BitVec.ofInt 64 x).toNat : Int) = x := by
  rw [BitVec.toNat_ofInt]
  have : x % ((2 ^ 64 : Nat) : Int) = x := Int.emod_eq_of_lt h.1 (by omega)
  rw [this]
  omega
theorem or_zero_r {x : Int} (h : 0 ≤ x ∧ x ≤ 18446744073709551615) : IntKind.wrap .u64 ↑(BitVec.toNat (BitVec.ofInt 64 x ||| BitVec.ofInt 64 0)) = x := by
  rw [show BitVec.ofInt 64 0 = 0#64 from rfl, BitVec.or_zero, ofInt_toNat h, wui h]
theorem or_zero_l {x : Int} (h : 0 ≤ x ∧ x ≤ 18446744073709551615) : IntKind.wrap .u64 ↑(BitVec.toNat (BitVec.ofInt 64 0 ||| BitVec.ofInt 64 x)) = x := by
  rw [show BitVec.ofInt 64 0 = 0#64 from rfl, BitVec.zero_or, ofInt_toNat h, wui h]
theorem wMul64 {x y : Int} (hx : 0 ≤ x ∧ x ≤ 18446744073709551615) (hy : 0 ≤ y ∧ y ≤ 18446744073709551615) :
    N52 (x, y, ()) = some (x * y / 18446744073709551616, x * y % 18446744073709551616, ()) := by
  have h := mul64_arith x y hx.1 (by omega) hy.1 (by omega)
  unfold N52 M52
  simp only [fdiv_pos (show (0 : Int) ≤ 4294967296 by omega)]
  rw [and_low hx, and_low hy]
  simp only [wu]
  rw [← wu (↑(BitVec.toNat _)), and_low (by omega), h]
theorem mul_words {x y : Int} (hx : 0 ≤ x ∧ x ≤ 18446744073709551615) (hy : 0 ≤ y ∧ y ≤ 18446744073709551615) : 0 ≤ x * y ∧ x * y ≤ 340282366920938463426481119284349108225 := by
  refine ⟨Int.mul_nonneg hx.1 hy.1, ?_⟩
  have := Int.mul_le_mul hx.2 hy.2 hy.1 (by omega : (0 : Int) ≤ 18446744073709551615)
  simpa using this
theorem wabs_mul (a b : Int) : wabs (a * b) = wabs a * wabs b := by
  unfold wabs
  by_cases ha : a < 0 <;> by_cases hb : b < 0
  · have := Int.mul_pos_of_neg_of_neg ha hb
    rw [if_neg (by omega), if_pos ha, if_pos hb, Int.neg_mul_neg]
  · have : a * b ≤ 0 := Int.mul_nonpos_of_nonpos_of_nonneg (by omega) (by omega)
    rw [if_pos ha, if_neg hb, Int.neg_mul]
    split <;> omega
  · have : a * b ≤ 0 := Int.mul_nonpos_of_nonneg_of_nonpos (by omega) (by omega)
    rw [if_neg ha, if_pos hb, Int.mul_neg]
    split <;> omega
  · have := Int.mul_nonneg (show 0 ≤ a by omega) (show 0 ≤ b by omega)
    rw [if_neg (by omega), if_neg ha, if_neg hb]
/-- A number out of its sign and its magnitude. -/
theorem sign_mul {a b : Int} {p q : Bool} (hp : p = true ↔ a < 0) (hq : q = true ↔ b < 0) : (if (!(p == q)) = true then -(wabs a * wabs b) else wabs a * wabs b) = a * b := by
  unfold wabs
  cases p <;> cases q <;> simp at hp hq
  · rw [if_neg (show ¬ a < 0 by omega), if_neg (show ¬ b < 0 by omega)]; simp
  · rw [if_neg (show ¬ a < 0 by omega), if_pos (show b < 0 by omega)]; simp <;> grind
  · rw [if_pos (show a < 0 by omega), if_neg (show ¬ b < 0 by omega)]; simp <;> grind
  · rw [if_pos (show a < 0 by omega), if_pos (show b < 0 by omega)]; simp <;> grind
/-- Where the magnitude is past every number, there is none. -/
theorem wans_past {v : Int} (h : 340282366920938463463374607431768211456 ≤ wabs v) : wans v = ((0, 0), 10, ()) := by
  refine wans_out ?_
  unfold wabs at h
  split at h <;> omega
/-- What is left of the product once its upper parts are settled. -/
theorem mul_rest {A1 A0 B1 B0 c : Int} (hA1 : 0 ≤ A1 ∧ A1 ≤ 9223372036854775808) (hA0 : 0 ≤ A0 ∧ A0 ≤ 18446744073709551615) (hB1 : 0 ≤ B1 ∧ B1 ≤ 9223372036854775808) (hB0 : 0 ≤ B0 ∧ B0 ≤ 18446744073709551615) (h0 : A1 = 0 ∨ B1 = 0)
    (hc : c = A1 * B0 + B1 * A0) : (A1 * 18446744073709551616 + A0) * (B1 * 18446744073709551616 + B0) = c * 18446744073709551616 + A0 * B0 := by
  subst hc
  rcases h0 with rfl | rfl
  · grind
  · grind
theorem wMul {a0 a1 b0 b1 : Int} (ha : WB a0 a1) (hb : WB b0 b1) : N27 ((a0, a1), (b0, b1), ()) = some (wans (wv a0 a1 * wv b0 b1)) := by
  have hs := sign_mul (a := wv a0 a1) (b := wv b0 b1) (p := decide (a0 < 0)) (q := decide (b0 < 0)) (by unfold WB at ha; unfold wv; simp; omega) (by unfold WB at hb; unfold wv; simp; omega)
  have hm := wabs_mul (wv a0 a1) (wv b0 b1)
  have hA := wabs_in ha
  have hB := wabs_in hb
  have eA := Int.emod_add_mul_ediv (wabs (wv a0 a1)) 18446744073709551616
  have eB := Int.emod_add_mul_ediv (wabs (wv b0 b1)) 18446744073709551616
  unfold N27 M27
  simp only []
  rw [wAbs ha]
  simp only [Option.bind_some]
  rw [wAbs hb]
  simp only [Option.bind_some]
  have hA1 : 0 ≤ wabs (wv a0 a1) / 18446744073709551616 ∧ wabs (wv a0 a1) / 18446744073709551616 ≤ 9223372036854775808 := by omega
  have hA0 : 0 ≤ wabs (wv a0 a1) % 18446744073709551616 ∧ wabs (wv a0 a1) % 18446744073709551616 ≤ 18446744073709551615 := by omega
  have hB1 : 0 ≤ wabs (wv b0 b1) / 18446744073709551616 ∧ wabs (wv b0 b1) / 18446744073709551616 ≤ 9223372036854775808 := by omega
  have hB0 : 0 ≤ wabs (wv b0 b1) % 18446744073709551616 ∧ wabs (wv b0 b1) % 18446744073709551616 ≤ 18446744073709551615 := by omega
  generalize wabs (wv a0 a1) / 18446744073709551616 = A1 at *
  generalize wabs (wv a0 a1) % 18446744073709551616 = A0 at *
  generalize wabs (wv b0 b1) / 18446744073709551616 = B1 at *
  generalize wabs (wv b0 b1) % 18446744073709551616 = B0 at *
  rw [← eA, ← eB] at hm hs
  generalize wv a0 a1 * wv b0 b1 = v at *
  -- the rest, behind the test
  have rest : (A1 = 0 ∨ B1 = 0) → ((N52 (A0, B0, ())).bind fun ⟨y3_0, ⟨y3_1, ()⟩⟩ => ((N53 (A1 != 0, B0, A0, ())).bind fun ⟨y4, ()⟩ => (let v0 : Int := ↑(BitVec.toNat (BitVec.ofInt 64 A1 ||| BitVec.ofInt 64 B1)); let v1 : Int := IntKind.wrap IntKind.u64 v0; (N52 (v1, y4, ())).bind fun ⟨y5_0, ⟨y5_1, ()⟩⟩ => (Option.bind (α := Int × Int × Unit) ((cAdd64 (τ := τ)).f (y3_0, y5_1, 0, ())) fun ⟨y6_0, ⟨y6_1, ()⟩⟩ => (bif y5_0 != 0 then (some ((0, 0), (10, ()))) else (bif y6_1 != 0 then (some ((0, 0), (10, ()))) else ((N55 (!decide (a0 < 0) == decide (b0 < 0), y6_0, y3_1, ())).bind fun ⟨⟨y9_0, y9_1⟩, ⟨y9_2, ()⟩⟩ => (some ((y9_0, y9_1), (y9_2, ())))))))))) = some (wans v) := by
    intro h0
    have hp := mul_words hA0 hB0
    rw [wMul64 hA0 hB0]
    simp only [Option.bind_some]
    obtain ⟨p, c, hpk, hw, hc, hpw⟩ : ∃ p c, N53 (A1 != 0, B0, A0, ()) = some (p, ()) ∧ IntKind.wrap .u64 ↑(BitVec.toNat (BitVec.ofInt 64 A1 ||| BitVec.ofInt 64 B1)) = c ∧ c * p = A1 * B0 + B1 * A0 ∧ (0 ≤ c ∧ c ≤ 18446744073709551615) ∧ (0 ≤ p ∧ p ≤ 18446744073709551615) := by
      rcases h0 with rfl | rfl
      · exact ⟨A0, B1, rfl, or_zero_l (by omega), by grind, by omega, by omega⟩
      · by_cases h : A1 = 0
        · subst h
          exact ⟨A0, 0, rfl, or_zero_l (by omega), by grind, by omega, by omega⟩
        · refine ⟨B0, A1, ?_, or_zero_r (by omega), by grind, by omega, by omega⟩
          have : (A1 != 0) = true := by simpa using h
          rw [this]
          rfl
    rw [hpk]
    simp only [Option.bind_some, hw]
    rw [wMul64 hpw.1 hpw.2]
    simp only [Option.bind_some]
    have hr := mul_rest hA1 hA0 hB1 hB0 h0 rfl
    rw [show A1 * 18446744073709551616 + A0 = A0 + 18446744073709551616 * A1 from by omega, show B1 * 18446744073709551616 + B0 = B0 + 18446744073709551616 * B1 from by omega] at hr
    rw [← hc] at hr
    rw [hr] at hm hs
    have hcp := mul_words hpw.1 hpw.2
    generalize c * p = C at *
    generalize A0 * B0 = D at *
    rw [add64_f (by omega) (by omega) (by omega)]
    simp only [Option.bind_some, bif_ne]
    by_cases h1 : C / 18446744073709551616 = 0
    · rw [if_pos h1]
      by_cases h2 : (D / 18446744073709551616 + C % 18446744073709551616 + 0) / 18446744073709551616 = 0
      · rw [if_pos h2, wJoin _ (by omega) (by omega)]
        rw [show (D / 18446744073709551616 + C % 18446744073709551616 + 0) % 18446744073709551616 * 18446744073709551616 + D % 18446744073709551616 = C * 18446744073709551616 + D from by omega, hs]
        rfl
      · rw [if_neg h2, wans_past (by omega)]
    · rw [if_neg h1, wans_past (by omega)]
  by_cases h1 : A1 = 0
  · rw [bif_ne, if_pos h1]
    exact rest (.inl h1)
  · rw [bif_ne, if_neg h1]
    by_cases h2 : B1 = 0
    · rw [bif_ne, if_pos h2]
      exact rest (.inr h2)
    · rw [bif_ne, if_neg h2]
      have h3 : 340282366920938463463374607431768211456 ≤ (A0 + 18446744073709551616 * A1) * (B0 + 18446744073709551616 * B1) := by
        have := Int.mul_le_mul (show 18446744073709551616 ≤ A0 + 18446744073709551616 * A1 by omega) (show 18446744073709551616 ≤ B0 + 18446744073709551616 * B1 by omega) (by omega) (by omega)
        omega
      rw [wans_past (by omega)]
end Go.Proofs.Ytgdnleanagclaaa.E
namespace Go.Proofs.Ytgdnleanagclaaa.E
open Go
set_option linter.unusedVariables false
set_option maxRecDepth 100000
theorem get_mid {α : Type} {pre r : List α} {x : α} {n : Nat} (h : pre.length = n) : (pre ++ x :: r)[n]? = some x := by subst h; simp
theorem set_mid {α : Type} {pre r : List α} {x y : α} {n : Nat} (h : pre.length = n) : (pre ++ x :: r).set n y = pre ++ y :: r := by subst h; simp
theorem dv_app (a b : List Int) : dv (a ++ b) = dv a + 65536 ^ a.length * dv b := by
  induction a with
  | nil => simp [dv]
  | cons x a ih =>
    simp only [List.cons_append, dv, List.length_cons, Int.pow_succ, ih]
    generalize (65536 : Int) ^ a.length = p
    generalize dv b = q
    rw [Int.mul_add, show p * 65536 * q = 65536 * (p * q) from by grind]
    omega
/-- One digit times a row of digits, added to a row. -/
def madd : Int → Int → List Int → List Int → List Int × Int
  | c, x, p :: ps, y :: ys =>
    let v := IntKind.wrap .u64 (IntKind.wrap .u64 (c + p) + IntKind.wrap .u64 (x * y))
    let r := madd (IntKind.wrap .u64 (Int.tdiv v 65536)) x ps ys
    (Int.tmod v 65536 :: r.1, r.2)
  | c, _, _, _ => ([], c)
theorem digit_mul {x y : Int} (hx : D16 x) (hy : D16 y) : 0 ≤ x * y ∧ x * y ≤ 4294836225 := by
  unfold D16 at *
  refine ⟨Int.mul_nonneg hx.1 hy.1, ?_⟩
  have := Int.mul_le_mul hx.2 hy.2 hy.1 (by omega : (0 : Int) ≤ 65535)
  simpa using this
theorem madd_spec : ∀ (ps ys : List Int) (c x : Int), (∀ p ∈ ps, D16 p) → (∀ y ∈ ys, D16 y) → D16 x → ps.length = ys.length → D16 c →
    (madd c x ps ys).1.length = ps.length ∧ (∀ z ∈ (madd c x ps ys).1, D16 z) ∧ D16 (madd c x ps ys).2 ∧ dv (madd c x ps ys).1 + 65536 ^ ps.length * (madd c x ps ys).2 = c + dv ps + x * dv ys
  | [], [], c, x, _, _, _, _, hc => ⟨rfl, (fun z hz => by cases hz), hc, by simp [madd, dv]⟩
  | p :: ps, y :: ys, c, x, hp, hy, hx, hl, hc => by
    have hp0 := hp p (by simp)
    have hy0 := hy y (by simp)
    have hm := digit_mul hx hy0
    have e1 : IntKind.wrap .u64 (IntKind.wrap .u64 (c + p) + IntKind.wrap .u64 (x * y)) = c + p + x * y := by
      unfold D16 at *
      rw [wui (n := c + p) (by omega), wui (n := x * y) (by omega), wui (by omega)]
    have e2 : IntKind.wrap .u64 (Int.tdiv (c + p + x * y) 65536) = (c + p + x * y) / 65536 := by
      unfold D16 at *
      rw [tdiv_pos (by omega), wui (by omega)]
    obtain ⟨i1, i2, i3, i4⟩ := madd_spec ps ys ((c + p + x * y) / 65536) x (fun z hz => hp z (by simp [hz])) (fun z hz => hy z (by simp [hz])) hx (by simpa using hl) (by unfold D16 at *; omega)
    unfold madd
    simp only [e1, e2]
    rw [tmod_pos (by unfold D16 at *; omega)]
    refine ⟨by simp [i1], fun z hz => ?_, i3, ?_⟩
    · rcases List.mem_cons.1 hz with rfl | hz
      · unfold D16; omega
      · exact i2 z hz
    · simp only [dv, List.length_cons, Int.pow_succ]
      rw [Int.mul_add, show x * (65536 * dv ys) = 65536 * (x * dv ys) from by grind]
      generalize (65536 : Int) ^ ps.length = q at *
      generalize (madd ((c + p + x * y) / 65536) x ps ys).2 = k at *
      generalize dv (madd ((c + p + x * y) / 65536) x ps ys).1 = m at *
      rw [show q * 65536 * k = 65536 * (q * k) from by grind]
      generalize q * k = qk at *
      generalize x * dv ys = xd at *
      generalize x * y = xy at *
      omega
theorem mul_inner {za zb zt : Int × Int × Unit} {xs : List Int} {x : Int} {i : Nat} (hi : i ≤ 7) (hx : xs[i]? = some x) : ∀ (ys ps pre yp post : List Int) (j : Nat) (c : Int), ys.length = ps.length → pre.length = i + j → yp.length = j → j + ys.length = 8 →
    itr R30_2 (ys.length + 1) (za, zb, zt, xs, yp ++ ys, pre ++ (ps ++ post), (i : Int), c, (j : Int), ()) = some (za, zb, zt, xs, yp ++ ys, pre ++ ((madd c x ps ys).1 ++ post), (i : Int), (madd c x ps ys).2, ())
  | [], [], pre, yp, post, j, c, hl, hpre, hyp, hj => by
    obtain ⟨za0, za1, ⟨⟩⟩ := za
    obtain ⟨zb0, zb1, ⟨⟩⟩ := zb
    obtain ⟨zt0, zt1, ⟨⟩⟩ := zt
    have hj8 : j = 8 := by simpa using hj
    subst hj8
    refine itr_out ?_
    rfl
  | y :: ys, p :: ps, pre, yp, post, j, c, hl, hpre, hyp, hj => by
    obtain ⟨za0, za1, ⟨⟩⟩ := za
    obtain ⟨zb0, zb1, ⟨⟩⟩ := zb
    obtain ⟨zt0, zt1, ⟨⟩⟩ := zt
    simp only [List.length_cons] at hl hj
    have hstep : R30_2 ((za0, za1, ()), (zb0, zb1, ()), (zt0, zt1, ()), xs, yp ++ y :: ys, pre ++ (p :: ps ++ post), (i : Int), c, (j : Int), ()) =
        some (.inl ((za0, za1, ()), (zb0, zb1, ()), (zt0, zt1, ()), xs, yp ++ y :: ys, pre ++ (Int.tmod (IntKind.wrap .u64 (IntKind.wrap .u64 (c + p) + IntKind.wrap .u64 (x * y))) 65536 :: (ps ++ post)), (i : Int), IntKind.wrap .u64 (Int.tdiv (IntKind.wrap .u64 (IntKind.wrap .u64 (c + p) + IntKind.wrap .u64 (x * y))) 65536), ((j + 1 : Nat) : Int), ())) := by
      unfold R30_2 Q30_2
      simp only []
      have e : IntKind.wrap .i64 ((i : Int) + j) = ((i + j : Nat) : Int) := by rw [wsi (by omega)]; omega
      have e2 : IntKind.wrap .i64 ((j : Int) + 1) = ((j + 1 : Nat) : Int) := by rw [wsi (by omega)]; omega
      rw [e, e2, bif_t (decide_eq_true (by omega)), bif_t (show (decide ((0 : Int) ≤ ((i + j : Nat) : Int)) && decide (((i + j : Nat) : Int) < 17)) = true from by rw [decide_eq_true (by omega), decide_eq_true (by omega)]; rfl),
        bif_t (show (decide ((0 : Int) ≤ (i : Int)) && decide ((i : Int) < 8)) = true from by rw [decide_eq_true (by omega), decide_eq_true (by omega)]; rfl), bif_t (show (decide ((0 : Int) ≤ (j : Int)) && decide ((j : Int) < 8)) = true from by rw [decide_eq_true (by omega), decide_eq_true (by omega)]; rfl),
        bif_t (show Nat.blt (Int.toNat ((i + j : Nat) : Int)) 17 = true from by simp [Nat.blt]; omega)]
      simp only [Int.toNat_natCast, Option.bind_some]
      rw [List.cons_append, get_mid hpre, hx, get_mid hyp]
      simp only [Option.bind_some]
      rw [set_mid hpre]
    rw [List.length_cons, itr_in hstep]
    have := mul_inner (za := (za0, za1, ())) (zb := (zb0, zb1, ())) (zt := (zt0, zt1, ())) hi hx ys ps (pre ++ [Int.tmod (IntKind.wrap .u64 (IntKind.wrap .u64 (c + p) + IntKind.wrap .u64 (x * y))) 65536]) (yp ++ [y]) post (j + 1) (IntKind.wrap .u64 (Int.tdiv (IntKind.wrap .u64 (IntKind.wrap .u64 (c + p) + IntKind.wrap .u64 (x * y))) 65536)) (by omega) (by simp; omega) (by simp; omega) (by omega)
    simpa [madd] using this
/-- The product of two rows of digits, as the rounds make it: ps holds the digits of the rounds' sum so far. -/
def mulr : List Int → List Int → List Int → List Int
  | [], _, ps => ps
  | x :: xs, ys, ps =>
    match (madd 0 x ps ys).1 ++ [(madd 0 x ps ys).2] with
    | [] => []
    | d :: r => d :: mulr xs ys r
theorem mulr_spec : ∀ (xs ys ps : List Int), (∀ x ∈ xs, D16 x) → (∀ y ∈ ys, D16 y) → (∀ p ∈ ps, D16 p) → ps.length = ys.length →
    (mulr xs ys ps).length = xs.length + ps.length ∧ (∀ z ∈ mulr xs ys ps, D16 z) ∧ dv (mulr xs ys ps) = dv ps + dv xs * dv ys
  | [], ys, ps, _, _, hp, _ => ⟨by simp [mulr], by simpa [mulr] using hp, by simp [mulr, dv]⟩
  | x :: xs, ys, ps, hx, hy, hp, hl => by
    obtain ⟨i1, i2, i3, i4⟩ := madd_spec ps ys 0 x hp hy (hx x (by simp)) hl (by unfold D16; omega)
    unfold mulr
    have hd : dv ((madd 0 x ps ys).1 ++ [(madd 0 x ps ys).2]) = dv ps + x * dv ys := by
      rw [dv_app, i1]
      simp only [dv, Int.mul_zero, Int.add_zero]
      omega
    have hlen : ((madd 0 x ps ys).1 ++ [(madd 0 x ps ys).2]).length = ps.length + 1 := by simp [i1]
    have hall : ∀ z ∈ (madd 0 x ps ys).1 ++ [(madd 0 x ps ys).2], D16 z := by
      intro z hz
      rcases List.mem_append.1 hz with h | h
      · exact i2 z h
      · rw [List.mem_singleton.1 h]; exact i3
    generalize (madd 0 x ps ys).1 ++ [(madd 0 x ps ys).2] = l at *
    match l, hlen with
    | d :: r, hlen =>
      simp only [List.length_cons, Nat.add_right_cancel_iff] at hlen
      obtain ⟨k1, k2, k3⟩ := mulr_spec xs ys r (fun z hz => hx z (by simp [hz])) hy (fun z hz => hall z (by simp [hz])) (hlen.trans hl)
      refine ⟨by simp [k1, hlen]; omega, fun z hz => ?_, ?_⟩
      · rcases List.mem_cons.1 hz with rfl | hz
        · exact hall z (by simp)
        · exact k2 z hz
      · simp only [dv] at hd ⊢
        rw [k3]
        rw [Int.add_mul, show 65536 * dv xs * dv ys = 65536 * (dv xs * dv ys) from by grind]
        omega
theorem mul_outer {za zb zt : Int × Int × Unit} {ys : List Int} (hy : ys.length = 8) : ∀ (xs xp pre ps : List Int) (i : Nat), xp.length = i → pre.length = i → ps.length = 8 → i + xs.length = 8 →
    itr R30_0 (xs.length + 1) (za, zb, zt, xp ++ xs, ys, pre ++ (ps ++ List.replicate (xs.length + 1) 0), (i : Int), ()) = some (za, zb, zt, pre ++ (mulr xs ys ps ++ [0]), ())
  | [], xp, pre, ps, i, hxp, hpre, hps, hi => by
    obtain ⟨za0, za1, ⟨⟩⟩ := za
    obtain ⟨zb0, zb1, ⟨⟩⟩ := zb
    obtain ⟨zt0, zt1, ⟨⟩⟩ := zt
    have : i = 8 := by simpa using hi
    subst this
    exact itr_out rfl
  | x :: xs, xp, pre, ps, i, hxp, hpre, hps, hi => by
    obtain ⟨za0, za1, ⟨⟩⟩ := za
    obtain ⟨zb0, zb1, ⟨⟩⟩ := zb
    obtain ⟨zt0, zt1, ⟨⟩⟩ := zt
    simp only [List.length_cons] at hi
    have hin := mul_inner (za := (za0, za1, ())) (zb := (zb0, zb1, ())) (zt := (zt0, zt1, ())) (xs := xp ++ x :: xs) (x := x) (i := i) (by omega) (get_mid hxp) ys ps pre [] (0 :: List.replicate (xs.length + 1) 0) 0 0 (hy.trans hps.symm) hpre rfl (by omega)
    have hin := itrs_of hin (by omega)
    have hml : (madd 0 x ps ys).1.length = 8 := by
      have : ∀ (c : Int) (ps ys : List Int), ps.length = ys.length → (madd c x ps ys).1.length = ps.length := by
        intro c ps
        induction ps generalizing c with
        | nil => intro ys _; cases ys <;> rfl
        | cons p ps ih =>
          intro ys hl
          cases ys with
          | nil => cases hl
          | cons y ys => simp [madd, ih _ ys (by simpa using hl)]
      rw [this 0 ps ys (hps.trans hy.symm), hps]
    obtain ⟨d, r, hdr⟩ : ∃ d r, (madd 0 x ps ys).1 ++ [(madd 0 x ps ys).2] = d :: r := by
      cases h : (madd 0 x ps ys).1 with
      | nil => rw [h] at hml; cases hml
      | cons d r => exact ⟨d, _, rfl⟩
    have hr : r.length = 8 := by
      have := congrArg List.length hdr
      simp [hml] at this
      omega
    have hstep : R30_0 ((za0, za1, ()), (zb0, zb1, ()), (zt0, zt1, ()), xp ++ x :: xs, ys, pre ++ (ps ++ List.replicate (xs.length + 1 + 1) 0), (i : Int), ()) =
        some (.inl ((za0, za1, ()), (zb0, zb1, ()), (zt0, zt1, ()), xp ++ x :: xs, ys, pre ++ [d] ++ (r ++ List.replicate (xs.length + 1) 0), ((i + 1 : Nat) : Int), ())) := by
      unfold R30_0 Q30_0
      simp only []
      rw [bif_t (decide_eq_true (by omega)), List.replicate_succ]
      rw [show itrs R30_2 ((za0, za1, ()), (zb0, zb1, ()), (zt0, zt1, ()), xp ++ x :: xs, ys, pre ++ (ps ++ 0 :: List.replicate (xs.length + 1) 0), (i : Int), 0, 0, ()) = _ from hin]
      simp only [Option.bind_some]
      have e : IntKind.wrap .i64 ((i : Int) + 8) = ((i + 8 : Nat) : Int) := by rw [wsi (by omega)]; omega
      have e2 : IntKind.wrap .i64 ((i : Int) + 1) = ((i + 1 : Nat) : Int) := by rw [wsi (by omega)]; omega
      rw [e, e2, bif_t (show (decide ((0 : Int) ≤ ((i + 8 : Nat) : Int)) && decide (((i + 8 : Nat) : Int) < 17)) = true from by rw [decide_eq_true (by omega), decide_eq_true (by omega)]; rfl), bif_t (show Nat.blt (Int.toNat ((i + 8 : Nat) : Int)) 17 = true from by simp [Nat.blt]; omega)]
      simp only [Int.toNat_natCast, Option.bind_some]
      rw [← List.append_assoc, set_mid (show (pre ++ (madd 0 x ps ys).1).length = i + 8 from by simp [hml, hpre])]
      have : pre ++ (madd 0 x ps ys).1 ++ (madd 0 x ps ys).2 :: List.replicate (xs.length + 1) 0 = pre ++ [d] ++ (r ++ List.replicate (xs.length + 1) 0) := by
        rw [show pre ++ (madd 0 x ps ys).1 ++ (madd 0 x ps ys).2 :: List.replicate (xs.length + 1) 0 = pre ++ ((madd 0 x ps ys).1 ++ [(madd 0 x ps ys).2] ++ List.replicate (xs.length + 1) 0) from by simp, hdr]
        simp
      rw [this]
      rfl
    rw [List.length_cons, itr_in hstep]
    have := mul_outer (za := (za0, za1, ())) (zb := (zb0, zb1, ())) (zt := (zt0, zt1, ())) hy xs (xp ++ [x]) (pre ++ [d]) r (i + 1) (by simp [hxp]) (by simp [hpre]) hr (by omega)
    rw [show xp ++ x :: xs = xp ++ [x] ++ xs from by simp, this]
    simp [mulr, hdr]
theorem mul_zeros {za zb zt : Int × Int × Unit} : ∀ (rest pre : List Int) (i : Nat), pre.length = i → i + rest.length = 17 →
    itr R30_4 (rest.length + 1) (za, zb, zt, pre ++ rest, (i : Int), ()) = some (if ∀ x ∈ rest, x = 0 then .inl (za, zb, zt, pre ++ rest, ()) else .inr ((0, 0, ()), 10, ()))
  | [], pre, i, hpre, hi => by
    obtain ⟨za0, za1, ⟨⟩⟩ := za
    obtain ⟨zb0, zb1, ⟨⟩⟩ := zb
    obtain ⟨zt0, zt1, ⟨⟩⟩ := zt
    have : i = 17 := by simpa using hi
    subst this
    rw [if_pos (fun x h => by cases h)]
    exact itr_out rfl
  | x :: rest, pre, i, hpre, hi => by
    obtain ⟨za0, za1, ⟨⟩⟩ := za
    obtain ⟨zb0, zb1, ⟨⟩⟩ := zb
    obtain ⟨zt0, zt1, ⟨⟩⟩ := zt
    simp only [List.length_cons] at hi
    have hstep : R30_4 ((za0, za1, ()), (zb0, zb1, ()), (zt0, zt1, ()), pre ++ x :: rest, (i : Int), ()) = bif x != 0 then some (.inr (.inr ((0, 0, ()), 10, ()))) else some (.inl ((za0, za1, ()), (zb0, zb1, ()), (zt0, zt1, ()), pre ++ [x] ++ rest, ((i + 1 : Nat) : Int), ())) := by
      unfold R30_4 Q30_4
      simp only []
      have e2 : IntKind.wrap .i64 ((i : Int) + 1) = ((i + 1 : Nat) : Int) := by rw [wsi (by omega)]; omega
      rw [e2, bif_t (decide_eq_true (by omega)), bif_t (show (decide ((0 : Int) ≤ (i : Int)) && decide ((i : Int) < 17)) = true from by rw [decide_eq_true (by omega), decide_eq_true (by omega)]; rfl)]
      simp only [Int.toNat_natCast, Option.bind_some]
      rw [get_mid hpre]
      simp only [Option.bind_some]
      rw [show pre ++ [x] ++ rest = pre ++ x :: rest from by simp]
    rw [List.length_cons, itr_bif hstep, bif_ne]
    by_cases hx : x = 0
    · rw [if_pos hx, mul_zeros rest (pre ++ [x]) (i + 1) (by simp [hpre]) (by omega)]
      subst hx
      simp
    · rw [if_neg hx, if_neg (fun h => hx (h x (by simp)))]
theorem dv_zero : ∀ (l : List Int), (∀ x ∈ l, D16 x) → 0 ≤ dv l ∧ ((∀ x ∈ l, x = 0) ↔ dv l = 0)
  | [], _ => by simp [dv]
  | x :: l, h => by
    obtain ⟨i1, i2⟩ := dv_zero l fun z hz => h z (by simp [hz])
    have hx := h x (by simp)
    unfold D16 at hx
    simp only [dv]
    refine ⟨by omega, ?_⟩
    constructor
    · intro k
      have := k x (by simp)
      have := i2.1 fun z hz => k z (by simp [hz])
      omega
    · intro k z hz
      rcases List.mem_cons.1 hz with rfl | hz
      · omega
      · exact i2.2 (by omega) z hz
theorem rdigits {hi lo : Int} (h1 : 0 ≤ hi ∧ hi ≤ 18446744073709551615) (h2 : 0 ≤ lo ∧ lo ≤ 18446744073709551615) : ∃ d, N56 (hi, lo, ()) = some (d, ()) ∧ d.length = 8 ∧ (∀ x ∈ d, D16 x) ∧ dv d = hi * 18446744073709551616 + lo := by
  have L0 : itrs R56_0 (hi, lo, List.replicate 8 0, List.replicate 8 0, 0, ()) = some (List.replicate 8 0, [Int.tmod (Int.fdiv lo (2 ^ 0)) 65536, Int.tmod (Int.fdiv lo (2 ^ 16)) 65536, Int.tmod (Int.fdiv lo (2 ^ 32)) 65536, Int.tmod (Int.fdiv lo (2 ^ 48)) 65536, Int.tmod (Int.fdiv hi (2 ^ 0)) 65536, Int.tmod (Int.fdiv hi (2 ^ 16)) 65536, Int.tmod (Int.fdiv hi (2 ^ 32)) 65536, Int.tmod (Int.fdiv hi (2 ^ 48)) 65536], ()) := itrs_of (n := 5) (by kernel_rfl) (by omega)
  unfold N56 M56
  simp only [L0, Option.bind_some]
  rw [sh_0, sh_16, sh_32, sh_48, sh_0, sh_16, sh_32, sh_48]
  rw [tmod_pos (by omega), tmod_pos (by omega), tmod_pos (by omega), tmod_pos (by omega), tmod_pos (by omega), tmod_pos (by omega), tmod_pos (by omega), tmod_pos (by omega)]
  refine ⟨_, rfl, rfl, ?_, ?_⟩
  · simp only [List.mem_cons, List.not_mem_nil, or_false, forall_eq_or_imp, forall_eq, D16]
    omega
  · simp only [dv]
    omega
theorem rMul {a0 a1 b0 b1 : Int} (ha : WB a0 a1) (hb : WB b0 b1) : N30 ((a0, a1), (b0, b1), ()) = some (wans (wv a0 a1 * wv b0 b1)) := by
  have hs := sign_mul (a := wv a0 a1) (b := wv b0 b1) (p := decide (a0 < 0)) (q := decide (b0 < 0)) (by unfold WB at ha; unfold wv; simp; omega) (by unfold WB at hb; unfold wv; simp; omega)
  have hm := wabs_mul (wv a0 a1) (wv b0 b1)
  have hA := wabs_in ha
  have hB := wabs_in hb
  obtain ⟨x, x1, x2, x3, x4⟩ := rdigits (hi := wabs (wv a0 a1) / 18446744073709551616) (lo := wabs (wv a0 a1) % 18446744073709551616) (by omega) (by omega)
  obtain ⟨y, y1, y2, y3, y4⟩ := rdigits (hi := wabs (wv b0 b1) / 18446744073709551616) (lo := wabs (wv b0 b1) % 18446744073709551616) (by omega) (by omega)
  have x4 : dv x = wabs (wv a0 a1) := by omega
  have y4 : dv y = wabs (wv b0 b1) := by omega
  have O := itrs_of (mul_outer (za := (a0, a1, ())) (zb := (b0, b1, ())) (zt := (0, 0, ())) y2 x [] [] (List.replicate 8 0) 0 rfl rfl rfl (by omega)) (by omega)
  obtain ⟨m1, m2, m3⟩ := mulr_spec x y (List.replicate 8 0) x3 y3 (by simp [D16]) (by simp [y2])
  rw [x4, y4, show dv (List.replicate 8 0) = 0 from by decide, Int.zero_add, ← hm] at m3
  rw [x2] at m1 O
  have m1 : (mulr x y (List.replicate 8 0)).length = 16 := m1
  rw [show ([] : List Int) ++ (List.replicate 8 0 ++ List.replicate (8 + 1) 0) = List.replicate 17 0 from rfl, List.nil_append, List.nil_append, show ((0 : Nat) : Int) = 0 from rfl] at O
  unfold N30 M30
  simp only []
  rw [rAbs ha]
  simp only [Option.bind_some, x1]
  rw [rAbs hb]
  simp only [Option.bind_some, y1]
  rw [O]
  simp only [Option.bind_some]
  generalize mulr x y (List.replicate 8 0) = p at *
  match p, m1 with
  | d0 :: d1 :: d2 :: d3 :: d4 :: d5 :: d6 :: d7 :: rest, m1 =>
    have hlen : rest.length = 8 := by simpa using m1
    have Zs := itrs_of (mul_zeros (za := (a0, a1, ())) (zb := (b0, b1, ())) (zt := (0, 0, ())) (rest ++ [0]) [d0, d1, d2, d3, d4, d5, d6, d7] 8 rfl (by simp [hlen])) (by simp [hlen])
    rw [show [d0, d1, d2, d3, d4, d5, d6, d7] ++ (rest ++ [0]) = d0 :: d1 :: d2 :: d3 :: d4 :: d5 :: d6 :: d7 :: rest ++ [0] from rfl] at Zs
    rw [show ((8 : Nat) : Int) = 8 from rfl] at Zs
    rw [Zs]
    simp only [Option.bind_some]
    have hd : ∀ z ∈ rest ++ [0], D16 z := by
      intro z hz
      rcases List.mem_append.1 hz with h | h
      · exact m2 z (by simp [h])
      · rw [List.mem_singleton.1 h]; unfold D16; omega
    obtain ⟨z1, z2⟩ := dv_zero (rest ++ [0]) hd
    have hdv : dv (rest ++ [0]) = dv rest := by rw [dv_app]; simp [dv]
    rw [hdv] at z1 z2
    have g : D16 d0 ∧ D16 d1 ∧ D16 d2 ∧ D16 d3 ∧ D16 d4 ∧ D16 d5 ∧ D16 d6 ∧ D16 d7 := ⟨m2 _ (by simp), m2 _ (by simp), m2 _ (by simp), m2 _ (by simp), m2 _ (by simp), m2 _ (by simp), m2 _ (by simp), m2 _ (by simp)⟩
    obtain ⟨g0, g1, g2, g3, g4, g5, g6, g7⟩ := g
    simp only [dv] at m3
    by_cases hz : ∀ z ∈ rest ++ [0], z = 0
    · have h0 := z2.1 hz
      rw [if_pos hz]
      simp only []
      have L6 : ∀ t, itrs R30_6 ((a0, a1, ()), (b0, b1, ()), (0, 0, ()), d0 :: d1 :: d2 :: d3 :: d4 :: d5 :: d6 :: d7 :: t, 0, 0, 3, ()) = some ((a0, a1, ()), (b0, b1, ()), (0, 0, ()), IntKind.wrap .u64 (IntKind.wrap .u64 (IntKind.wrap .u64 (IntKind.wrap .u64 (IntKind.wrap .u64 (IntKind.wrap .u64 (IntKind.wrap .u64 (IntKind.wrap .u64 (0 * 65536) + d7) * 65536) + d6) * 65536) + d5) * 65536) + d4), IntKind.wrap .u64 (IntKind.wrap .u64 (IntKind.wrap .u64 (IntKind.wrap .u64 (IntKind.wrap .u64 (IntKind.wrap .u64 (IntKind.wrap .u64 (IntKind.wrap .u64 (0 * 65536) + d3) * 65536) + d2) * 65536) + d1) * 65536) + d0), ()) := fun t => itrs_of (n := 5) (by kernel_rfl) (by omega)
      rw [List.cons_append, List.cons_append, List.cons_append, List.cons_append, List.cons_append, List.cons_append, List.cons_append, List.cons_append, L6, horner g0 g1 g2 g3, horner g4 g5 g6 g7]
      simp only [Option.bind_some]
      unfold D16 at *
      rw [rJoin _ (by omega) (by omega)]
      simp only [Option.bind_some]
      rw [← hm] at hs
      rw [show (d4 + 65536 * (d5 + 65536 * (d6 + 65536 * d7))) * 18446744073709551616 + (d0 + 65536 * (d1 + 65536 * (d2 + 65536 * d3))) = wabs (wv a0 a1 * wv b0 b1) from by omega, hs]
    · rw [if_neg hz]
      have h0 : ¬ dv rest = 0 := fun h => hz (z2.2 h)
      simp only []
      unfold D16 at *
      rw [wans_past (by omega)]
end Go.Proofs.Ytgdnleanagclaaa.E
namespace Go.Proofs.Ytgdnleanagclaaa.E
open Go
set_option linter.unusedVariables false
set_option maxRecDepth 100000
def blk (q s : Int) : Int := q / s + (if q % s = 0 then 0 else 1)
def fitB (s q : Int) : Bool := decide (1 ≤ s) && decide (s ≤ 1000000000000) && decide (0 ≤ q) && decide (q ≤ 1099511627776)
theorem fitB_iff {s q : Int} : fitB s q = true ↔ 1 ≤ s ∧ s ≤ 1000000000000 ∧ 0 ≤ q ∧ q ≤ 1099511627776 := by
  unfold fitB
  simp only [Bool.and_eq_true, decide_eq_true_eq]
  omega
def LB (l : (Int × Int) × (Int × Int) × (Int × Int)) : Prop := WB l.1.1 l.1.2 ∧ WB l.2.1.1 l.2.1.2 ∧ WB l.2.2.1 l.2.2.2
def over : (Int × Int) × Int × Unit := ((0, 0), 10, ())
def valans (A B C s q : Int) : (Int × Int) × Int × Unit :=
  if fitB s q = true then (if inR (B * q) then (if inR (C * blk q s) then (if inR (A + B * q) then wans (A + B * q + C * blk q s) else over) else over) else over) else ((0, 0), 1, ())
theorem blk_in {s q : Int} (h : fitB s q = true) : 0 ≤ blk q s ∧ blk q s ≤ 1099511627777 := by
  obtain ⟨h1, h2, h3, h4⟩ := fitB_iff.1 h
  have a := Int.ediv_nonneg h3 (show 0 ≤ s by omega)
  have b : q / s ≤ q := Int.ediv_le_self _ h3
  unfold blk
  split <;> omega
theorem lfit {s q : Int} : N23 (s, q, ()) = some (fitB s q, ()) := by
  unfold N23 M23 fitB
  simp only [bif_p]
  by_cases h1 : 1 ≤ s <;> by_cases h2 : s ≤ 1000000000000 <;> by_cases h3 : 0 ≤ q <;> simp [h1, h2, h3, GE.ge]
theorem rfits {s q : Int} : N25 (s, q, ()) = some (fitB s q, ()) := by
  unfold N25 M25 fitB
  simp only [bif_p]
  by_cases h1 : 1 ≤ s <;> by_cases h2 : s ≤ 1000000000000 <;> by_cases h3 : 0 ≤ q <;> simp [h1, h2, h3, GE.ge]
theorem lblocks {s q : Int} (h : fitB s q = true) : N28 (q, s, ()) = some (blk q s, ()) := by
  obtain ⟨h1, h2, h3, h4⟩ := fitB_iff.1 h
  have hb := blk_in h
  have a := Int.ediv_nonneg h3 (show 0 ≤ s by omega)
  have b : q / s ≤ q := Int.ediv_le_self _ h3
  have r0 := Int.emod_nonneg q (show s ≠ 0 by omega)
  unfold N28 M28
  simp only []
  rw [bif_t (show (!s == 0) = true from by simp; omega)]
  simp only [Option.bind_some]
  rw [tdiv_pos h3, tmod_pos h3, wsi (n := q / s) (by omega)]
  unfold blk at *
  rw [show (if 1 < q % s then (1 : Int) else q % s) = if q % s = 0 then 0 else 1 from by (repeat' split) <;> omega, wsi (by omega)]
theorem rBlocks {s q : Int} (h : fitB s q = true) : N32 (q, s, ()) = some (blk q s, ()) := by
  obtain ⟨h1, h2, h3, h4⟩ := fitB_iff.1 h
  have a := Int.ediv_nonneg h3 (show 0 ≤ s by omega)
  have b : q / s ≤ q := Int.ediv_le_self _ h3
  unfold N32 M32
  simp only []
  rw [bif_t (show (!s == 0) = true from by simp; omega)]
  simp only [Option.bind_some]
  rw [tdiv_pos h3, tmod_pos h3, wsi (n := q / s) (by omega), wsi (n := q / s + 1) (by omega), bif_ne]
  unfold blk
  by_cases hz : q % s = 0
  · rw [if_pos hz, if_pos hz, Int.add_zero]
  · rw [if_neg hz, if_neg hz]
theorem wvi {a : Int} : wv (a / 18446744073709551616) (a % 18446744073709551616) = a := wv_of a
theorem lValue {l : (Int × Int) × (Int × Int) × (Int × Int)} (hl : LB l) (s q : Int) : N10 (l, s, q, ()) = some (valans (wv l.1.1 l.1.2) (wv l.2.1.1 l.2.1.2) (wv l.2.2.1 l.2.2.2) s q) := by
  obtain ⟨⟨a0, a1⟩, ⟨b0, b1⟩, ⟨c0, c1⟩⟩ := l
  obtain ⟨ha, hb, hc⟩ := hl
  simp only at ha hb hc ⊢
  unfold N10 M10 valans
  simp only []
  rw [lfit]
  simp only [Option.bind_some, bif_not]
  cases hf : fitB s q with
  | false => rfl
  | true =>
    simp only [cond_true, if_true]
    obtain ⟨h1, h2, h3, h4⟩ := fitB_iff.1 hf
    have hbk := blk_in hf
    rw [wOf (a := q) (by omega)]
    simp only [Option.bind_some]
    rw [wMul hb (WB_of (by omega)), wvi]
    by_cases i1 : inR (wv b0 b1 * q)
    · rw [if_pos i1, wans_in i1]
      simp only [Option.bind_some, bne_self_eq_false, cond_false]
      rw [lblocks hf]
      simp only [Option.bind_some]
      rw [wOf (a := blk q s) (by omega)]
      simp only [Option.bind_some]
      rw [wMul hc (WB_of (by omega)), wvi]
      by_cases i2 : inR (wv c0 c1 * blk q s)
      · rw [if_pos i2, wans_in i2]
        simp only [Option.bind_some, bne_self_eq_false, cond_false]
        rw [wAdd ha (WB_in i1), wvi]
        by_cases i3 : inR (wv a0 a1 + wv b0 b1 * q)
        · rw [if_pos i3, wans_in i3]
          simp only [Option.bind_some, bne_self_eq_false, cond_false]
          rw [wAdd (WB_in i3) (WB_in i2), wvi, wvi]
          rfl
        · rw [if_neg i3, wans_out i3]
          rfl
      · rw [if_neg i2, wans_out i2]
        rfl
    · rw [if_neg i1, wans_out i1]
      rfl
theorem rValue {l : (Int × Int) × (Int × Int) × (Int × Int)} (hl : LB l) (s q : Int) : N11 (l, s, q, ()) = some (valans (wv l.1.1 l.1.2) (wv l.2.1.1 l.2.1.2) (wv l.2.2.1 l.2.2.2) s q) := by
  obtain ⟨⟨a0, a1⟩, ⟨b0, b1⟩, ⟨c0, c1⟩⟩ := l
  obtain ⟨ha, hb, hc⟩ := hl
  simp only at ha hb hc ⊢
  unfold N11 M11 valans
  simp only []
  rw [rfits]
  simp only [Option.bind_some, bif_not]
  cases hf : fitB s q with
  | false => rfl
  | true =>
    simp only [cond_true, if_true]
    obtain ⟨h1, h2, h3, h4⟩ := fitB_iff.1 hf
    have hbk := blk_in hf
    rw [rOf (a := q) (by omega)]
    simp only [Option.bind_some]
    rw [rMul hb (WB_of (by omega)), wvi]
    simp only [Option.bind_some]
    rw [rBlocks hf]
    simp only [Option.bind_some]
    rw [rOf (a := blk q s) (by omega)]
    simp only [Option.bind_some]
    rw [rMul hc (WB_of (by omega)), wvi]
    simp only [Option.bind_some]
    by_cases i1 : inR (wv b0 b1 * q)
    · rw [if_pos i1, wans_in i1]
      simp only [bne_self_eq_false, cond_false]
      by_cases i2 : inR (wv c0 c1 * blk q s)
      · rw [if_pos i2, wans_in i2]
        simp only [bne_self_eq_false, cond_false]
        rw [rAdd ha (WB_in i1), wvi]
        by_cases i3 : inR (wv a0 a1 + wv b0 b1 * q)
        · rw [if_pos i3, wans_in i3]
          simp only [Option.bind_some, bne_self_eq_false, cond_false]
          rw [rAdd (WB_in i3) (WB_in i2), wvi, wvi]
          rfl
        · rw [if_neg i3, wans_out i3]
          rfl
      · rw [if_neg i2, wans_out i2]
        rfl
    · rw [if_neg i1, wans_out i1]
      rfl
theorem rNeg {a0 a1 : Int} (ha : WB a0 a1) : N50 ((a0, a1), ()) = some (wans (-wv a0 a1)) := by
  obtain ⟨d, k1, k2⟩ := rDigits ha
  obtain ⟨t, j1, j2⟩ := rTurned k2
  have h1 := wv_in ha
  unfold N50 M50
  simp only [k1, j1, Option.bind_some]
  rw [rtold (v := -wv a0 a1) (by omega) (Long_eq j2 (by unfold long; omega))]
  rfl
theorem lfar {a0 a1 : Int} (ha : WB a0 a1) : N24 ((a0, a1), ()) = some (wans (wabs (wv a0 a1))) := by
  unfold N24 M24 wabs
  simp only [bif_p]
  have : a0 < 0 ↔ wv a0 a1 < 0 := by unfold WB at ha; unfold wv; omega
  by_cases h : a0 < 0
  · rw [if_pos h, if_pos (this.1 h), wNeg ha]
    rfl
  · rw [if_neg h, if_neg fun k => h (this.2 k), wans_wv ha]
theorem rfar {a0 a1 : Int} (ha : WB a0 a1) : N26 ((a0, a1), ()) = some (wans (wabs (wv a0 a1))) := by
  unfold N26 M26 wabs
  simp only [bif_p]
  have : a0 < 0 ↔ wv a0 a1 < 0 := by unfold WB at ha; unfold wv; omega
  by_cases h : a0 < 0
  · rw [if_pos h, if_pos (this.1 h), rNeg ha]
    rfl
  · rw [if_neg h, if_neg fun k => h (this.2 k), wans_wv ha]
def spanans (A B C s : Int) : (Int × Int) × Int × Unit :=
  if fitB s 0 = true then (if inR (wabs A) then (if inR (wabs B) then (if inR (wabs C) then valans (wabs A) (wabs B) (wabs C) s 1099511627776 else over) else over) else over) else ((0, 0), 1, ())
theorem lSpan {l : (Int × Int) × (Int × Int) × (Int × Int)} (hl : LB l) (s : Int) : N8 (l, s, ()) = some (spanans (wv l.1.1 l.1.2) (wv l.2.1.1 l.2.1.2) (wv l.2.2.1 l.2.2.2) s) := by
  obtain ⟨⟨a0, a1⟩, ⟨b0, b1⟩, ⟨c0, c1⟩⟩ := l
  obtain ⟨ha, hb, hc⟩ := hl
  simp only at ha hb hc ⊢
  unfold N8 M8 spanans
  simp only []
  rw [lfit, lfar ha, lfar hb, lfar hc]
  simp only [Option.bind_some, bif_not]
  cases hf : fitB s 0 with
  | false => rfl
  | true =>
    simp only [cond_true, if_true]
    by_cases i1 : inR (wabs (wv a0 a1))
    · rw [if_pos i1, wans_in i1]
      by_cases i2 : inR (wabs (wv b0 b1))
      · rw [if_pos i2, wans_in i2]
        by_cases i3 : inR (wabs (wv c0 c1))
        · rw [if_pos i3, wans_in i3]
          simp only [bne_self_eq_false, cond_false]
          rw [lValue ⟨WB_in i1, WB_in i2, WB_in i3⟩]
          simp only [wvi]
          rfl
        · rw [if_neg i3, wans_out i3]
          rfl
      · rw [if_neg i2, wans_out i2]
        rfl
    · rw [if_neg i1, wans_out i1]
      rfl
theorem rSpan {l : (Int × Int) × (Int × Int) × (Int × Int)} (hl : LB l) (s : Int) : N9 (l, s, ()) = some (spanans (wv l.1.1 l.1.2) (wv l.2.1.1 l.2.1.2) (wv l.2.2.1 l.2.2.2) s) := by
  obtain ⟨⟨a0, a1⟩, ⟨b0, b1⟩, ⟨c0, c1⟩⟩ := l
  obtain ⟨ha, hb, hc⟩ := hl
  simp only at ha hb hc ⊢
  unfold N9 M9 spanans
  simp only []
  rw [rfits, rfar ha, rfar hb, rfar hc]
  simp only [Option.bind_some, bif_not]
  cases hf : fitB s 0 with
  | false => rfl
  | true =>
    simp only [cond_true, if_true]
    by_cases i1 : inR (wabs (wv a0 a1))
    · rw [if_pos i1, wans_in i1]
      by_cases i2 : inR (wabs (wv b0 b1))
      · rw [if_pos i2, wans_in i2]
        by_cases i3 : inR (wabs (wv c0 c1))
        · rw [if_pos i3, wans_in i3]
          simp only [bne_self_eq_false, cond_false]
          rw [rValue ⟨WB_in i1, WB_in i2, WB_in i3⟩]
          simp only [wvi]
          rfl
        · rw [if_neg i3, wans_out i3]
          rfl
      · rw [if_neg i2, wans_out i2]
        rfl
    · rw [if_neg i1, wans_out i1]
      rfl
end Go.Proofs.Ytgdnleanagclaaa.E
namespace Go.Proofs.Ytgdnleanagclaaa.E
open Go
theorem awake_yes : N7 () = some (true, ()) := by kernel_rfl
end Go.Proofs.Ytgdnleanagclaaa.E
namespace Go.Proofs.Ytgdnleanagclaaa.E
open Go
set_option linter.unusedVariables false
set_option maxRecDepth 100000
theorem pureLineValues : PLineValues := by
  intro ⟨⟨a0, a1⟩, ⟨b0, b1⟩, ⟨c0, c1⟩⟩ s l ha hs ⟨hl, hq⟩
  have hL : LB ((a0, a1), (b0, b1), (c0, c1)) := ha
  have hb : Program.bytesOf Try.prog 2 = 8 := by kernel_rfl
  rw [hb] at hl
  unfold N3 M3
  simp only []
  rw [awake_yes]
  simp only [Option.bind_some, Bool.not_true, cond_false]
  rw [lSpan hL]
  simp only [Option.bind_some]
  rw [rSpan hL]
  simp only [Option.bind_some, beq_self_eq_true, Bool.and_true, Bool.not_true, cond_false, bne_self_eq_false]
  obtain ⟨y, h1, h2⟩ := itrs_inv (ro := R3_0) (fun z => ∃ (x y : Int × Int × Unit) (j : Nat), j ≤ l.length ∧ z = (s, l, ((a0, a1), (b0, b1), (c0, c1), ()), x, y, (j : Int), ())) (fun z => l.length - (z.2.2.2.2.2.1).toNat) (fun y => y = .inl ()) (fun z ⟨x, y, j, hj, e⟩ => by
    subst e
    obtain ⟨x0, x1, ⟨⟩⟩ := x
    obtain ⟨y0, y1, ⟨⟩⟩ := y
    by_cases hjl : j < l.length
    · refine .inl ⟨(s, l, ((a0, a1), (b0, b1), (c0, c1), ()), ((valans (wv a0 a1) (wv b0 b1) (wv c0 c1) s l[j]).1.1, (valans (wv a0 a1) (wv b0 b1) (wv c0 c1) s l[j]).1.2, ()), ((valans (wv a0 a1) (wv b0 b1) (wv c0 c1) s l[j]).1.1, (valans (wv a0 a1) (wv b0 b1) (wv c0 c1) s l[j]).1.2, ()), ((j + 1 : Nat) : Int), ()), ?_, ⟨_, _, j + 1, hjl, rfl⟩, ?_⟩
      · unfold R3_0 Q3_0
        simp only []
        rw [bif_t (decide_eq_true (show (j : Int) < (l.length : Int) by omega)), bif_t (decide_eq_true (show (0 : Int) ≤ (j : Int) by omega)), Int.toNat_natCast, List.getElem?_eq_getElem hjl]
        simp only [Option.bind_some]
        rw [lValue hL]
        simp only [Option.bind_some]
        rw [rValue hL]
        simp only [Option.bind_some, beq_self_eq_true, Bool.and_true, Bool.not_true, cond_false, bne_self_eq_false]
        rw [wsi (by omega)]
        rfl
      · simp only [Int.toNat_natCast]
        omega
    · refine .inr ⟨.inl (), ?_, rfl⟩
      unfold R3_0 Q3_0
      simp only []
      rw [bif_f (decide_eq_false (by omega))]) (x := (s, l, ((a0, a1), (b0, b1), (c0, c1), ()), _, _, 0, ())) ⟨_, _, 0, by omega, rfl⟩ (by simp only [Int.toNat_zero]; omega)
  rw [h1, h2]
  rfl
end Go.Proofs.Ytgdnleanagclaaa.E
namespace Go.Proofs.Ytgdnleanagclaaa.E.Row
open Go Go.ChangeShapes Go.WideShapes Go.ChangeAt Go.RowKit Go.Proofs.Ytgdnleanagclaaa
set_option linter.unusedVariables false
set_option maxRecDepth 100000
theorem own : ownKnob Try.prog.godebug = none := by kernel_rfl
theorem laidOut : laidOutB Try.prog = true := by kernel_rfl
theorem came24 : Came κ Try.prog 24 ((.pair (.int .i64) (.int .u64)) : K τ (Int × Int)) W24 := Came.struct Try.underlying24 (by kernel_rfl) (CameFs.cons (o1 := 1) rfl (by kernel_rfl) rfl (Came.i64 Try.underlying2) (CameFs.one rfl (by kernel_rfl) (Came.u64 Try.underlying22)))
theorem came26 : Came κ Try.prog 26 ((.pair (.pair (.int .i64) (.int .u64)) (.pair (.pair (.int .i64) (.int .u64)) (.pair (.int .i64) (.int .u64)))) : K τ ((Int × Int) × ((Int × Int) × (Int × Int)))) W26 := Came.struct Try.underlying26 (by kernel_rfl) (CameFs.cons (o1 := 2) rfl (by kernel_rfl) rfl came24 (CameFs.cons (o1 := 4) rfl (by kernel_rfl) rfl came24 (CameFs.one rfl (by kernel_rfl) came24)))
theorem came27 : Came κ Try.prog 27 (.sl (τ := τ) 2) (fun a : (List Int) => (List.length a * Program.bytesOf Try.prog 2 ≤ 140737488351232 ∧ ∀ x ∈ a, (-9223372036854775808 ≤ x ∧ x ≤ 9223372036854775807))) := Came.slice (κ := κ) (e := 2) (Q := fun x : Int => (-9223372036854775808 ≤ x ∧ x ≤ 9223372036854775807)) Try.underlying27 (by kernel_rfl) (by kernel_rfl) rfl (show Came κ Try.prog 2 (κ 2) (fun x : Int => (-9223372036854775808 ≤ x ∧ x ≤ 9223372036854775807)) from (Came.i64 Try.underlying2))
theorem lifted (os : Os) (started : os.Started) (H : Type) (enc : TypeId × Value → H) :
    ReturnsInHanded {} Try.checked os 3 .any (Rows.lineValuesSpec.pre6 enc Try.prog Try.f3 Rows.lineValuesRow.domain false) (Rows.lineValuesSpec.post enc Try.prog Try.f3 false true false false) := by
  refine returnsInHanded_of_change_sized (C := Try.checked) own started (by kernel_rfl) Try.func3
    (ChangeSpec.witness6 (enc := enc) (C := Try.checked) false ⟨#[], #[(.agg #[(.int .i64 0), (.int .u64 0), (.int .i64 0), (.int .u64 0), (.int .i64 0), (.int .u64 0)]), (.int .i64 0), (.slice none 0 0)], []⟩ 8 (by kernel_rfl) (by kernel_rfl) (by kernel_rfl) (by kernel_rfl)) ?_
  intro W base args ds gs before hval0 hW hcnd hsz0 _
  have hsz : (DataW.weightsEach Try.prog (Try.f3.params.toList ++ Rows.lineValuesSpec.plain.varTypes Try.prog) (ds ++ gs)).all (· ≤ reachBytes) = true := hsz0
  have hval : ∀ (j : Nat) t v, Try.f3.params[j]? = some t → args[j]? = some v → Value.okWide Try.prog W .any base t v := hval0
  have hW' := hW
  obtain ⟨p, q, hA0, hV, rfl, hfz, hnd⟩ := hW
  have hA : DataW.TrodAll enc Try.prog W 0 (fun _ => true) true Try.f3.params.toList args.toList ds p := hA0
  rw [Try.params3] at hA hval hsz
  obtain ⟨v0, vs0, d0, ds0, p0, q0, hargs, rfl, rfl, h0, r0⟩ := trodAll_cons hA
  obtain ⟨v1, vs1, d1, ds1, p1, q1, rfl, rfl, rfl, h1, r1⟩ := trodAll_cons r0
  obtain ⟨v2, vs2, d2, ds2, p2, q2, rfl, rfl, rfl, h2, r2⟩ := trodAll_cons r1
  obtain ⟨rfl, rfl, rfl⟩ := trodAll_nil r2
  obtain rfl : args = #[v0, v1, v2] := by cases args; simp_all
  obtain ⟨rfl, rfl⟩ := trodVars_none hV
  have hwt : ∀ (j : Nat) t d, [26, 2, 27][j]? = some t → [d0, d1, d2][j]? = some d → ∀ n ∈ DataW.weights Try.prog t d, n ≤ reachBytes := fun j t d h1 h2 n hn => by
    have := List.all_eq_true.1 hsz n (weights_each (j := j) (by simpa using (List.getElem?_append_left (l₂ := Rows.lineValuesSpec.plain.varTypes Try.prog) (List.getElem?_eq_some_iff.1 h1).1).trans h1) (by simpa using h2) n hn)
    simpa using this
  have lt0 : ∀ x ∈ p0, x.block < W.heap.size := by obtain ⟨m, hm⟩ := h0; exact DataW.trod_lt m _ _ _ hm
  obtain ⟨a0, e0, y0⟩ := arg_agg Try.underlying26 rfl came26 (hval 0 26 v0 rfl rfl) h0 (hwt 0 26 d0 rfl rfl)
  have lt1 : ∀ x ∈ p1, x.block < W.heap.size := by obtain ⟨m, hm⟩ := h1; exact DataW.trod_lt m _ _ _ hm
  obtain ⟨a1, e1, y1⟩ := arg_int Try.underlying2 (Came.i64 Try.underlying2) (hval 1 2 v1 rfl rfl) h1 (hwt 1 2 d1 rfl rfl)
  have lt2 : ∀ x ∈ p2, x.block < W.heap.size := by obtain ⟨m, hm⟩ := h2; exact DataW.trod_lt m _ _ _ hm
  obtain ⟨a2, e2, y2⟩ := arg_slice Try.underlying27 came27 (hval 2 27 v2 rfl rfl) h2 (hwt 2 27 d2 rfl rfl)
  have hp : N3 (a0, a1, a2, ()) = some (true, ()) := pureLineValues a0 a1 a2 y0 y1 y2
  refine (law_calls (i := i3) (n := N3) (F := Try.f3) (code := bodyOf Try.f3) s3 (by kernel_rfl) Try.func3 (by kernel_rfl) (by kernel_rfl) hp (argsK_cons e0 (argsK_cons e1 (argsK_cons e2 argsK_nil)))).mono fun e W' ⟨he, bel⟩ => ?_
  subst he
  exact ⟨_, rfl, _, _, _, [], _, [], hW', trodAll_mk1 (shut_bool Try.underlying4 _), (trodAll_cons_mk (Below.trod laidOut (by kernel_rfl) (of_decide_eq_true (by kernel_rfl)) h0 bel lt0) (trodAll_cons_mk (Below.trod laidOut (by kernel_rfl) (of_decide_eq_true (by kernel_rfl)) h1 bel lt1) (trodAll_cons_mk (Below.trod laidOut (by kernel_rfl) (of_decide_eq_true (by kernel_rfl)) h2 bel lt2) trodAll_mk0))), rfl, bel.frame _, fun h => by cases h⟩
theorem over : Rows.lineValuesRow.holds Try.pinned (OpenSpec.ofChange Rows.lineValuesSpec) :=
  OpenClaim.holds_of_wide 3 Try.f3 rfl rfl rfl rfl rfl rfl rfl ⟨rfl, rfl, rfl, rfl, rfl⟩ rfl rfl rfl rfl rfl (by kernel_rfl) Try.func3 (by kernel_rfl)
    (of_decide_eq_true (by kernel_rfl)) (by unfold Func.isWrapper; first | (rw [if_pos (by decide +kernel)]; kernel_rfl) | (rw [if_neg (by decide +kernel)]; exact ⟨rfl, rfl⟩))
    (fun os started H enc _ => lifted os started H enc)
theorem proved : Rows.LineValuesSaid := over
end Go.Proofs.Ytgdnleanagclaaa.E.Row
namespace Go.Proofs.Ytgdnleanagclaaa
/-- The row, under a short name, for the claim. -/
theorem lineValues_holds : Rows.LineValuesSaid := Ytgdnleanagclaaa.E.Row.proved
#print axioms lineValues_holds
end Go.Proofs.Ytgdnleanagclaaa
