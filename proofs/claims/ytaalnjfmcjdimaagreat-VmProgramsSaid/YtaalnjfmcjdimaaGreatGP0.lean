/- The statement VmPrograms for every input: the plain facts on the functions' results, and the row. No condition. -/
import Derived.Test.YtaalnjfmcjdimaaGreatGF2
import Derived.Test.YtaalnjfmcjdimaaGreatGE2
import Derived.Test.YtaalnjfmcjdimaaGreatGF0
import Derived.Lib.ItoaNum
import Derived.Laws.BitsAllLaws
import Derived.Test.YtaalnjfmcjdimaaGreatGF1
namespace Go.Proofs.YtaalnjfmcjdimaaGreat.E
open Go
def W53 (a : (Int × Int)) : Prop := (-9223372036854775808 ≤ a.1 ∧ a.1 ≤ 9223372036854775807) ∧ (0 ≤ a.2 ∧ a.2 ≤ 18446744073709551615)
def W64 (a : (Int × Int)) : Prop := (-9223372036854775808 ≤ a.1 ∧ a.1 ≤ 9223372036854775807) ∧ (-9223372036854775808 ≤ a.2 ∧ a.2 ≤ 9223372036854775807)
def W44 (a : (Int × (Int × Int))) : Prop := (-9223372036854775808 ≤ a.1 ∧ a.1 ≤ 9223372036854775807) ∧ (-9223372036854775808 ≤ a.2.1 ∧ a.2.1 ≤ 9223372036854775807) ∧ (-9223372036854775808 ≤ a.2.2 ∧ a.2.2 ≤ 9223372036854775807)
def W38 (a : (Int × (Int × ((List Int) × ((List (Int × Int)) × ((List (List (Int × Int))) × (List (Int × (Int × Int))))))))) : Prop := (-9223372036854775808 ≤ a.1 ∧ a.1 ≤ 9223372036854775807) ∧ (-9223372036854775808 ≤ a.2.1 ∧ a.2.1 ≤ 9223372036854775807) ∧ (List.length a.2.2.1 * Program.bytesOf Tryz.prog 2 ≤ 140737488351232 ∧ ∀ x ∈ a.2.2.1, (-9223372036854775808 ≤ x ∧ x ≤ 9223372036854775807)) ∧ (List.length a.2.2.2.1 * Program.bytesOf Tryz.prog 53 ≤ 140737488351232 ∧ ∀ x ∈ a.2.2.2.1, W53 x) ∧ (List.length a.2.2.2.2.1 * Program.bytesOf Tryz.prog 62 ≤ 140737488351232 ∧ ∀ x ∈ a.2.2.2.2.1, (List.length x * Program.bytesOf Tryz.prog 64 ≤ 140737488351232 ∧ ∀ x' ∈ x, W64 x')) ∧ (List.length a.2.2.2.2.2 * Program.bytesOf Tryz.prog 44 ≤ 140737488351232 ∧ ∀ x ∈ a.2.2.2.2.2, W44 x)
def PVmPrograms : Prop := ∀ (a0 : (Int × (Int × ((List Int) × ((List (Int × Int)) × ((List (List (Int × Int))) × (List (Int × (Int × Int))))))))) (a1 : (List (List Int))), W38 a0 → (List.length a1 * Program.bytesOf Tryz.prog 28 ≤ 140737488351232 ∧ ∀ x ∈ a1, (List.length x * Program.bytesOf Tryz.prog 2 ≤ 140737488351232 ∧ ∀ x' ∈ x, (-9223372036854775808 ≤ x' ∧ x' ≤ 9223372036854775807))) → N4 (a0, a1, ()) = some (true, ())
end Go.Proofs.YtaalnjfmcjdimaaGreat.E
/-
  Sums, differences, opposites, magnitudes and joins of numbers of two words, as the program's functions answer them. No condition beyond the words' own bounds.
-/
namespace Go.Proofs.YtaalnjfmcjdimaaGreat.E
open Go
set_option linter.unusedVariables false
theorem wAdd {a0 a1 b0 b1 : Int} (ha : WB a0 a1) (hb : WB b0 b1) : N62 ((a0, a1), (b0, b1), ()) = some (wans (wv a0 a1 + wv b0 b1)) := by
  obtain ⟨⟨p1, p2⟩, p3, p4⟩ := ha
  obtain ⟨⟨q1, q2⟩, q3, q4⟩ := hb
  unfold N62 M62
  simp only []
  rw [add64_f ⟨p3, p4⟩ ⟨q3, q4⟩ (by omega)]
  simp only [Option.bind_some, wu, ws]
  rw [add64_f (by omega) (by omega) (by omega)]
  simp only [Option.bind_some]
  unfold wans wv
  simp only [bif_not, bif_iff]
  (repeat' split) <;> first | rfl | (exfalso; omega) | (congr 3 <;> omega) | (congr 2 <;> omega)
theorem wSub {a0 a1 b0 b1 : Int} (ha : WB a0 a1) (hb : WB b0 b1) : N61 ((a0, a1), (b0, b1), ()) = some (wans (wv a0 a1 - wv b0 b1)) := by
  obtain ⟨⟨p1, p2⟩, p3, p4⟩ := ha
  obtain ⟨⟨q1, q2⟩, q3, q4⟩ := hb
  unfold N61 M61
  simp only []
  rw [sub64_f ⟨p3, p4⟩ ⟨q3, q4⟩ (by omega)]
  simp only [Option.bind_some, wu, ws]
  rw [sub64_f (by omega) (by omega) (by omega)]
  simp only [Option.bind_some]
  unfold wans wv
  simp only [bif_not, bif_iff]
  (repeat' split) <;> first | rfl | (exfalso; omega) | (congr 3 <;> omega) | (congr 2 <;> omega)
theorem wNeg {a0 a1 : Int} (ha : WB a0 a1) : N90 ((a0, a1), ()) = some (wans (-wv a0 a1)) := by
  unfold N90 M90
  simp only []
  rw [wSub WB_zero ha, show wv 0 0 - wv a0 a1 = -wv a0 a1 from by unfold wv; omega]
  rfl
theorem wOf {a : Int} (h : -9223372036854775808 ≤ a ∧ a ≤ 9223372036854775807) : N41 (a, ()) = some ((a / 18446744073709551616, a % 18446744073709551616), ()) := by
  unfold N41 M41
  simp only [wu]
  rw [fdiv_pos (by omega), show a / 9223372036854775808 = a / 18446744073709551616 from by omega]
theorem wAbs {h l : Int} (b : WB h l) : N83 ((h, l), ()) = some (wabs (wv h l) / 18446744073709551616, wabs (wv h l) % 18446744073709551616, ()) := by
  obtain ⟨⟨p1, p2⟩, p3, p4⟩ := b
  unfold N83 M83 wabs
  simp only [wu, bif_p]
  by_cases h0 : h ≥ 0
  · rw [if_pos h0, if_neg (by unfold wv; omega)]
    unfold wv
    congr 2 <;> first | omega | (congr 1; omega)
  · rw [if_neg h0, if_pos (by unfold wv; omega), sub64_f (by omega) (by omega) (by omega)]
    simp only [Option.bind_some]
    rw [sub64_f (by omega) (by omega) (by omega)]
    simp only [Option.bind_some]
    unfold wv
    congr 2 <;> first | omega | (congr 1; omega)
theorem wJoin (neg : Bool) {hi lo : Int} (h1 : 0 ≤ hi ∧ hi ≤ 18446744073709551615) (h2 : 0 ≤ lo ∧ lo ≤ 18446744073709551615) :
    N87 (neg, hi, lo, ()) = some (wans (if neg = true then -(hi * 18446744073709551616 + lo) else hi * 18446744073709551616 + lo)) := by
  unfold N87 M87
  simp only []
  rw [fdiv_pos (by omega)]
  by_cases h0 : hi / 9223372036854775808 = 0
  · rw [bif_t (by simpa using h0), wsi (by omega)]
    have b : WB hi lo := by unfold WB; omega
    cases neg with
    | true =>
      rw [bif_t rfl, if_pos rfl, wNeg b]
      rfl
    | false =>
      rw [bif_f rfl, if_neg (by simp)]
      have := wans_wv b
      unfold wv at this
      rw [this]
  · rw [bif_f (by simpa using h0)]
    cases neg with
    | true =>
      rw [bif_t rfl, if_pos rfl]
      unfold wans
      by_cases e1 : hi = 9223372036854775808
      · rw [bif_t (by simpa using e1)]
        by_cases e2 : lo = 0
        · rw [bif_t (by simpa using e2), if_pos (by omega)]
          subst e1 e2
          rfl
        · rw [bif_f (by simpa using e2), if_neg (by omega)]
      · rw [bif_f (by simpa using e1), if_neg (by omega)]
    | false =>
      rw [bif_f rfl, if_neg (by simp)]
      unfold wans
      rw [if_neg (by omega)]
end Go.Proofs.YtaalnjfmcjdimaaGreat.E
/-
  The machine's pile: what is laid on it and taken from it; the instructions that reckon. No condition but the words' own bounds and the pile's length.
-/
namespace Go.Proofs.YtaalnjfmcjdimaaGreat.E
open Go
set_option linter.unusedVariables false
set_option linter.unusedSimpArgs false
set_option maxRecDepth 100000
abbrev Wd : Type := Int × Int
abbrev VPrg : Type := Int × Int × List Int × List Wd × List (List (Int × Int)) × List (Int × Int × Int)
abbrev Mch : Type := VPrg × List Int × Wd × List Wd × Int × Int × Bool × Unit
def mc (p : VPrg) (q : List Int) (u : Wd) (pile : List Wd) (at_ steps : Int) (over : Bool) : Mch := (p, q, u, pile, at_, steps, over, ())
section
variable (p : VPrg) (q : List Int) (u : Wd) (l : List Wd) (a s : Int) (o : Bool)
theorem vPush (w : Wd) (h : l.length ≤ 1000000) : N88 (mc p q u l a s o, w, ()) = some (mc p q u (l ++ [w]) a s o, ()) := by
  obtain ⟨p0, p1, p2, p3, p4, p5⟩ := p
  obtain ⟨u0, u1⟩ := u
  obtain ⟨w0, w1⟩ := w
  unfold N88 M88 mc
  simp only []
  rw [bif_t (c := decide ((l.length + 1) * 16 ≤ _)) (decide_eq_true (by omega))]
  rfl
theorem vMade (w : Wd) (e : Int) : N89 (mc p q u l a s o, w, e, ()) = some (w, mc p q u l a s (o || e != 0), ()) := by
  obtain ⟨p0, p1, p2, p3, p4, p5⟩ := p
  obtain ⟨u0, u1⟩ := u
  obtain ⟨w0, w1⟩ := w
  unfold N89 M89 mc
  cases o <;> rfl
theorem vPop (w : Wd) (h : l.length ≤ 1000000) : N91 (mc p q u (l ++ [w]) a s o, ()) = some (w, mc p q u l a s o, ()) := by
  obtain ⟨p0, p1, p2, p3, p4, p5⟩ := p
  obtain ⟨u0, u1⟩ := u
  have hl : (l ++ [w]).length = l.length + 1 := by simp
  unfold N91 M91 mc
  simp only []
  rw [hl, wsi (n := ((l.length + 1 : Nat) : Int) - 1) (by omega), show (((l.length + 1 : Nat) : Int) - 1) = (l.length : Int) by omega, Int.toNat_natCast, List.getElem?_append_right (Nat.le_refl _), decide_eq_true (show (0 : Int) ≤ (l.length : Int) by omega), decide_eq_true (show (l.length : Int) < ((l.length + 1 : Nat) : Int) by omega), decide_eq_true (show (l.length : Int) ≤ ((l.length + 1 : Nat) : Int) by omega), Nat.sub_zero, show Nat.ble l.length (l.length + 1) = true from Nat.ble_eq_true_of_le (by omega), Nat.sub_self, List.take_left]
  obtain ⟨w0, w1⟩ := w
  rfl
theorem vTwo (y x : Wd) (h : l.length ≤ 999999) : N92 (mc p q u (l ++ [y, x]) a s o, ()) = some (y, x, mc p q u l a s o, ()) := by
  have e1 := vPop p q u (l ++ [y]) a s o x (by rw [List.length_append]; simp only [List.length_cons, List.length_nil]; omega)
  have e2 := vPop p q u l a s o y (by omega)
  rw [List.append_assoc] at e1
  unfold N92 M92
  obtain ⟨p0, p1, p2, p3, p4, p5⟩ := p
  obtain ⟨u0, u1⟩ := u
  unfold mc at *
  simp only [List.cons_append, List.nil_append] at *
  rw [e1]
  obtain ⟨x0, x1⟩ := x
  simp only [Option.bind_some]
  rw [e2]
  obtain ⟨y0, y1⟩ := y
  rfl
end
end Go.Proofs.YtaalnjfmcjdimaaGreat.E
/-
  The machine's instructions that reckon: sums, differences, opposites; what is laid. No condition but the words' own bounds and the pile's length.
-/
namespace Go.Proofs.YtaalnjfmcjdimaaGreat.E
open Go
set_option linter.unusedVariables false
set_option linter.unusedSimpArgs false
set_option maxRecDepth 100000
def ov (v : Int) : Bool := (wans v).2.1 != 0
section
variable (p : VPrg) (q : List Int) (u : Wd) (l : List Wd) (a s : Int) (o : Bool)
theorem vAdd (y x : Wd) (c : Int × Int × Int) (h : l.length ≤ 999999) (hy : WB y.1 y.2) (hx : WB x.1 x.2) : N47 (mc p q u (l ++ [y, x]) a s o, c, ()) = some (mc p q u (l ++ [(wans (wv y.1 y.2 + wv x.1 x.2)).1]) a s (o || ov (wv y.1 y.2 + wv x.1 x.2)), ()) := by
  have e1 := vTwo p q u l a s o y x h
  have e2 := wAdd hy hx
  have e3 := vMade p q u l a s o (wans (wv y.1 y.2 + wv x.1 x.2)).1 (wans (wv y.1 y.2 + wv x.1 x.2)).2.1
  have e4 := vPush p q u l a s (o || ov (wv y.1 y.2 + wv x.1 x.2)) (wans (wv y.1 y.2 + wv x.1 x.2)).1 (by omega)
  unfold N47 M47
  unfold ov at *
  obtain ⟨p0, p1, p2, p3, p4, p5⟩ := p
  obtain ⟨u0, u1⟩ := u
  obtain ⟨c0, c1, c2⟩ := c
  obtain ⟨y0, y1⟩ := y
  obtain ⟨x0, x1⟩ := x
  generalize wans (wv (y0, y1).1 (y0, y1).2 + wv (x0, x1).1 (x0, x1).2) = z at *
  obtain ⟨⟨z0, z1⟩, z2, ⟨⟩⟩ := z
  unfold mc at *
  simp only [] at *
  rw [e1]
  simp only [Option.bind_some]
  rw [e2]
  simp only [Option.bind_some]
  rw [e3]
  simp only [Option.bind_some]
  rw [e4]
  rfl
theorem vSub (y x : Wd) (c : Int × Int × Int) (h : l.length ≤ 999999) (hy : WB y.1 y.2) (hx : WB x.1 x.2) : N48 (mc p q u (l ++ [y, x]) a s o, c, ()) = some (mc p q u (l ++ [(wans (wv y.1 y.2 - wv x.1 x.2)).1]) a s (o || ov (wv y.1 y.2 - wv x.1 x.2)), ()) := by
  have e1 := vTwo p q u l a s o y x h
  have e2 := wSub hy hx
  have e3 := vMade p q u l a s o (wans (wv y.1 y.2 - wv x.1 x.2)).1 (wans (wv y.1 y.2 - wv x.1 x.2)).2.1
  have e4 := vPush p q u l a s (o || ov (wv y.1 y.2 - wv x.1 x.2)) (wans (wv y.1 y.2 - wv x.1 x.2)).1 (by omega)
  unfold N48 M48
  unfold ov at *
  obtain ⟨p0, p1, p2, p3, p4, p5⟩ := p
  obtain ⟨u0, u1⟩ := u
  obtain ⟨c0, c1, c2⟩ := c
  obtain ⟨y0, y1⟩ := y
  obtain ⟨x0, x1⟩ := x
  generalize wans (wv (y0, y1).1 (y0, y1).2 - wv (x0, x1).1 (x0, x1).2) = z at *
  obtain ⟨⟨z0, z1⟩, z2, ⟨⟩⟩ := z
  unfold mc at *
  simp only [] at *
  rw [e1]
  simp only [Option.bind_some]
  rw [e2]
  simp only [Option.bind_some]
  rw [e3]
  simp only [Option.bind_some]
  rw [e4]
  rfl
theorem vNeg (x : Wd) (c : Int × Int × Int) (h : l.length ≤ 999999) (hx : WB x.1 x.2) : N46 (mc p q u (l ++ [x]) a s o, c, ()) = some (mc p q u (l ++ [(wans (-wv x.1 x.2)).1]) a s (o || ov (-wv x.1 x.2)), ()) := by
  have e1 := vPop p q u l a s o x (by omega)
  have e2 := wNeg hx
  have e3 := vMade p q u l a s o (wans (-wv x.1 x.2)).1 (wans (-wv x.1 x.2)).2.1
  have e4 := vPush p q u l a s (o || ov (-wv x.1 x.2)) (wans (-wv x.1 x.2)).1 (by omega)
  unfold N46 M46
  unfold ov at *
  obtain ⟨p0, p1, p2, p3, p4, p5⟩ := p
  obtain ⟨u0, u1⟩ := u
  obtain ⟨c0, c1, c2⟩ := c
  obtain ⟨x0, x1⟩ := x
  generalize wans (-wv (x0, x1).1 (x0, x1).2) = z at *
  obtain ⟨⟨z0, z1⟩, z2, ⟨⟩⟩ := z
  unfold mc at *
  simp only [] at *
  rw [e1]
  simp only [Option.bind_some]
  rw [e2]
  simp only [Option.bind_some]
  rw [e3]
  simp only [Option.bind_some]
  rw [e4]
  rfl
theorem vSkip (c : Int × Int × Int) (h : 0 ≤ a ∧ a ≤ 100000) (hc : 0 ≤ c.2.2 ∧ c.2.2 ≤ 65535) : N57 (mc p q u l a s o, c, ()) = some (mc p q u l (a + c.2.2) s o, ()) := by
  obtain ⟨p0, p1, p2, p3, p4, p5⟩ := p
  obtain ⟨u0, u1⟩ := u
  obtain ⟨c0, c1, c2⟩ := c
  unfold N57 M57 mc
  simp only [] at *
  rw [wsi (by omega)]
end
end Go.Proofs.YtaalnjfmcjdimaaGreat.E
/-
  Products of words and of numbers of two words, as the program's functions answer them. No condition beyond the words' own bounds.
-/
namespace Go.Proofs.YtaalnjfmcjdimaaGreat.E
open Go
set_option linter.unusedVariables false
theorem and_low {z : Int} (h : 0 ≤ z ∧ z ≤ 18446744073709551615) : IntKind.wrap .u64 ↑(BitVec.toNat (BitVec.ofInt 64 z &&& BitVec.ofInt 64 4294967295)) = z % 4294967296 := and_low32 z h.1 (by omega)
theorem ofInt_toNat {x : Int} (h : 0 ≤ x ∧ x ≤ 18446744073709551615) : ((BitVec.ofInt 64 x).toNat : Int) = x := by
  rw [BitVec.toNat_ofInt]
  have : x % ((2 ^ 64 : Nat) : Int) = x := Int.emod_eq_of_lt h.1 (by omega)
  rw [this]
  omega
theorem or_zero_r {x : Int} (h : 0 ≤ x ∧ x ≤ 18446744073709551615) : IntKind.wrap .u64 ↑(BitVec.toNat (BitVec.ofInt 64 x ||| BitVec.ofInt 64 0)) = x := by
  rw [show BitVec.ofInt 64 0 = 0#64 from rfl, BitVec.or_zero, ofInt_toNat h, wui h]
theorem or_zero_l {x : Int} (h : 0 ≤ x ∧ x ≤ 18446744073709551615) : IntKind.wrap .u64 ↑(BitVec.toNat (BitVec.ofInt 64 0 ||| BitVec.ofInt 64 x)) = x := by
  rw [show BitVec.ofInt 64 0 = 0#64 from rfl, BitVec.zero_or, ofInt_toNat h, wui h]
theorem wMul64 {x y : Int} (hx : 0 ≤ x ∧ x ≤ 18446744073709551615) (hy : 0 ≤ y ∧ y ≤ 18446744073709551615) :
    N84 (x, y, ()) = some (x * y / 18446744073709551616, x * y % 18446744073709551616, ()) := by
  have h := mul64_arith x y hx.1 (by omega) hy.1 (by omega)
  unfold N84 M84
  simp only [fdiv_pos (show (0 : Int) ≤ 4294967296 by omega)]
  rw [and_low hx, and_low hy]
  simp only [wu]
  rw [← wu (↑(BitVec.toNat _)), and_low (by omega), h]
theorem mul_words {x y : Int} (hx : 0 ≤ x ∧ x ≤ 18446744073709551615) (hy : 0 ≤ y ∧ y ≤ 18446744073709551615) : 0 ≤ x * y ∧ x * y ≤ 340282366920938463426481119284349108225 := by
  refine ⟨Int.mul_nonneg hx.1 hy.1, ?_⟩
  have := Int.mul_le_mul hx.2 hy.2 hy.1 (by omega : (0 : Int) ≤ 18446744073709551615)
  simpa using this
theorem wabs_mul (a b : Int) : wabs (a * b) = wabs a * wabs b := by
  unfold wabs
  by_cases ha : a < 0 <;> by_cases hb : b < 0
  · have := Int.mul_pos_of_neg_of_neg ha hb
    rw [if_neg (by omega), if_pos ha, if_pos hb, Int.neg_mul_neg]
  · have : a * b ≤ 0 := Int.mul_nonpos_of_nonpos_of_nonneg (by omega) (by omega)
    rw [if_pos ha, if_neg hb, Int.neg_mul]
    split <;> omega
  · have : a * b ≤ 0 := Int.mul_nonpos_of_nonneg_of_nonpos (by omega) (by omega)
    rw [if_neg ha, if_pos hb, Int.mul_neg]
    split <;> omega
  · have := Int.mul_nonneg (show 0 ≤ a by omega) (show 0 ≤ b by omega)
    rw [if_neg (by omega), if_neg ha, if_neg hb]
theorem sign_mul {a b : Int} {p q : Bool} (hp : p = true ↔ a < 0) (hq : q = true ↔ b < 0) : (if (!(p == q)) = true then -(wabs a * wabs b) else wabs a * wabs b) = a * b := by
  unfold wabs
  cases p <;> cases q <;> simp at hp hq
  · rw [if_neg (show ¬ a < 0 by omega), if_neg (show ¬ b < 0 by omega)]; simp
  · rw [if_neg (show ¬ a < 0 by omega), if_pos (show b < 0 by omega)]; simp <;> grind
  · rw [if_pos (show a < 0 by omega), if_neg (show ¬ b < 0 by omega)]; simp <;> grind
  · rw [if_pos (show a < 0 by omega), if_pos (show b < 0 by omega)]; simp <;> grind
theorem wans_past {v : Int} (h : 340282366920938463463374607431768211456 ≤ wabs v) : wans v = ((0, 0), 10, ()) := by
  refine wans_out ?_
  unfold wabs at h
  split at h <;> omega
theorem mul_rest {A1 A0 B1 B0 c : Int} (hA1 : 0 ≤ A1 ∧ A1 ≤ 9223372036854775808) (hA0 : 0 ≤ A0 ∧ A0 ≤ 18446744073709551615) (hB1 : 0 ≤ B1 ∧ B1 ≤ 9223372036854775808) (hB0 : 0 ≤ B0 ∧ B0 ≤ 18446744073709551615) (h0 : A1 = 0 ∨ B1 = 0)
    (hc : c = A1 * B0 + B1 * A0) : (A1 * 18446744073709551616 + A0) * (B1 * 18446744073709551616 + B0) = c * 18446744073709551616 + A0 * B0 := by
  subst hc
  rcases h0 with rfl | rfl
  · grind
  · grind
theorem wMul {a0 a1 b0 b1 : Int} (ha : WB a0 a1) (hb : WB b0 b1) : N42 ((a0, a1), (b0, b1), ()) = some (wans (wv a0 a1 * wv b0 b1)) := by
  have hs := sign_mul (a := wv a0 a1) (b := wv b0 b1) (p := decide (a0 < 0)) (q := decide (b0 < 0)) (by unfold WB at ha; unfold wv; simp; omega) (by unfold WB at hb; unfold wv; simp; omega)
  have hm := wabs_mul (wv a0 a1) (wv b0 b1)
  have hA := wabs_in ha
  have hB := wabs_in hb
  have eA := Int.emod_add_mul_ediv (wabs (wv a0 a1)) 18446744073709551616
  have eB := Int.emod_add_mul_ediv (wabs (wv b0 b1)) 18446744073709551616
  unfold N42 M42
  simp only []
  rw [wAbs ha]
  simp only [Option.bind_some]
  rw [wAbs hb]
  simp only [Option.bind_some]
  have hA1 : 0 ≤ wabs (wv a0 a1) / 18446744073709551616 ∧ wabs (wv a0 a1) / 18446744073709551616 ≤ 9223372036854775808 := by omega
  have hA0 : 0 ≤ wabs (wv a0 a1) % 18446744073709551616 ∧ wabs (wv a0 a1) % 18446744073709551616 ≤ 18446744073709551615 := by omega
  have hB1 : 0 ≤ wabs (wv b0 b1) / 18446744073709551616 ∧ wabs (wv b0 b1) / 18446744073709551616 ≤ 9223372036854775808 := by omega
  have hB0 : 0 ≤ wabs (wv b0 b1) % 18446744073709551616 ∧ wabs (wv b0 b1) % 18446744073709551616 ≤ 18446744073709551615 := by omega
  generalize wabs (wv a0 a1) / 18446744073709551616 = A1 at *
  generalize wabs (wv a0 a1) % 18446744073709551616 = A0 at *
  generalize wabs (wv b0 b1) / 18446744073709551616 = B1 at *
  generalize wabs (wv b0 b1) % 18446744073709551616 = B0 at *
  rw [← eA, ← eB] at hm hs
  generalize wv a0 a1 * wv b0 b1 = v at *
  -- the rest, behind the test
  have rest : (A1 = 0 ∨ B1 = 0) → ((N84 (A0, B0, ())).bind fun ⟨y3_0, ⟨y3_1, ()⟩⟩ => ((N85 (A1 != 0, B0, A0, ())).bind fun ⟨y4, ()⟩ => (let v0 : Int := ↑(BitVec.toNat (BitVec.ofInt 64 A1 ||| BitVec.ofInt 64 B1)); let v1 : Int := IntKind.wrap IntKind.u64 v0; (N84 (v1, y4, ())).bind fun ⟨y5_0, ⟨y5_1, ()⟩⟩ => (Option.bind (α := Int × Int × Unit) ((cAdd64 (τ := τ)).f (y3_0, y5_1, 0, ())) fun ⟨y6_0, ⟨y6_1, ()⟩⟩ => (bif y5_0 != 0 then (some ((0, 0), (10, ()))) else (bif y6_1 != 0 then (some ((0, 0), (10, ()))) else ((N87 (!decide (a0 < 0) == decide (b0 < 0), y6_0, y3_1, ())).bind fun ⟨⟨y9_0, y9_1⟩, ⟨y9_2, ()⟩⟩ => (some ((y9_0, y9_1), (y9_2, ())))))))))) = some (wans v) := by
    intro h0
    have hp := mul_words hA0 hB0
    rw [wMul64 hA0 hB0]
    simp only [Option.bind_some]
    obtain ⟨p, c, hpk, hw, hc, hpw⟩ : ∃ p c, N85 (A1 != 0, B0, A0, ()) = some (p, ()) ∧ IntKind.wrap .u64 ↑(BitVec.toNat (BitVec.ofInt 64 A1 ||| BitVec.ofInt 64 B1)) = c ∧ c * p = A1 * B0 + B1 * A0 ∧ (0 ≤ c ∧ c ≤ 18446744073709551615) ∧ (0 ≤ p ∧ p ≤ 18446744073709551615) := by
      rcases h0 with rfl | rfl
      · exact ⟨A0, B1, rfl, or_zero_l (by omega), by grind, by omega, by omega⟩
      · by_cases h : A1 = 0
        · subst h
          exact ⟨A0, 0, rfl, or_zero_l (by omega), by grind, by omega, by omega⟩
        · refine ⟨B0, A1, ?_, or_zero_r (by omega), by grind, by omega, by omega⟩
          have : (A1 != 0) = true := by simpa using h
          rw [this]
          rfl
    rw [hpk]
    simp only [Option.bind_some, hw]
    rw [wMul64 hpw.1 hpw.2]
    simp only [Option.bind_some]
    have hr := mul_rest hA1 hA0 hB1 hB0 h0 rfl
    rw [show A1 * 18446744073709551616 + A0 = A0 + 18446744073709551616 * A1 from by omega, show B1 * 18446744073709551616 + B0 = B0 + 18446744073709551616 * B1 from by omega] at hr
    rw [← hc] at hr
    rw [hr] at hm hs
    have hcp := mul_words hpw.1 hpw.2
    generalize c * p = C at *
    generalize A0 * B0 = D at *
    rw [add64_f (by omega) (by omega) (by omega)]
    simp only [Option.bind_some, bif_ne]
    by_cases h1 : C / 18446744073709551616 = 0
    · rw [if_pos h1]
      by_cases h2 : (D / 18446744073709551616 + C % 18446744073709551616 + 0) / 18446744073709551616 = 0
      · rw [if_pos h2, wJoin _ (by omega) (by omega)]
        rw [show (D / 18446744073709551616 + C % 18446744073709551616 + 0) % 18446744073709551616 * 18446744073709551616 + D % 18446744073709551616 = C * 18446744073709551616 + D from by omega, hs]
        rfl
      · rw [if_neg h2, wans_past (by omega)]
    · rw [if_neg h1, wans_past (by omega)]
  by_cases h1 : A1 = 0
  · rw [bif_ne, if_pos h1]
    exact rest (.inl h1)
  · rw [bif_ne, if_neg h1]
    by_cases h2 : B1 = 0
    · rw [bif_ne, if_pos h2]
      exact rest (.inr h2)
    · rw [bif_ne, if_neg h2]
      have h3 : 340282366920938463463374607431768211456 ≤ (A0 + 18446744073709551616 * A1) * (B0 + 18446744073709551616 * B1) := by
        have := Int.mul_le_mul (show 18446744073709551616 ≤ A0 + 18446744073709551616 * A1 by omega) (show 18446744073709551616 ≤ B0 + 18446744073709551616 * B1 by omega) (by omega) (by omega)
        omega
      rw [wans_past (by omega)]
end Go.Proofs.YtaalnjfmcjdimaaGreat.E
/-
  The machine's instructions that lay constants, quantities; products. No condition but the words' own bounds and the pile's length.
-/
namespace Go.Proofs.YtaalnjfmcjdimaaGreat.E
open Go
set_option linter.unusedVariables false
set_option linter.unusedSimpArgs false
set_option maxRecDepth 100000
section
variable (p : VPrg) (q : List Int) (u : Wd) (l : List Wd) (a s : Int) (o : Bool)
theorem vMul (y x : Wd) (c : Int × Int × Int) (h : l.length ≤ 999999) (hy : WB y.1 y.2) (hx : WB x.1 x.2) : N49 (mc p q u (l ++ [y, x]) a s o, c, ()) = some (mc p q u (l ++ [(wans (wv y.1 y.2 * wv x.1 x.2)).1]) a s (o || ov (wv y.1 y.2 * wv x.1 x.2)), ()) := by
  have e1 := vTwo p q u l a s o y x h
  have e2 := wMul hy hx
  have e3 := vMade p q u l a s o (wans (wv y.1 y.2 * wv x.1 x.2)).1 (wans (wv y.1 y.2 * wv x.1 x.2)).2.1
  have e4 := vPush p q u l a s (o || ov (wv y.1 y.2 * wv x.1 x.2)) (wans (wv y.1 y.2 * wv x.1 x.2)).1 (by omega)
  unfold N49 M49
  unfold ov at *
  obtain ⟨p0, p1, p2, p3, p4, p5⟩ := p
  obtain ⟨u0, u1⟩ := u
  obtain ⟨c0, c1, c2⟩ := c
  obtain ⟨y0, y1⟩ := y
  obtain ⟨x0, x1⟩ := x
  generalize wans (wv (y0, y1).1 (y0, y1).2 * wv (x0, x1).1 (x0, x1).2) = z at *
  obtain ⟨⟨z0, z1⟩, z2, ⟨⟩⟩ := z
  unfold mc at *
  simp only [] at *
  rw [e1]
  simp only [Option.bind_some]
  rw [e2]
  simp only [Option.bind_some]
  rw [e3]
  simp only [Option.bind_some]
  rw [e4]
  rfl
theorem vConst (c : Int × Int × Int) (k : Nat) (hk : c.2.1 = (k : Int)) (hp : k < p.2.2.2.1.length) (h : l.length ≤ 1000000) : N43 (mc p q u l a s o, c, ()) = some (mc p q u (l ++ [p.2.2.2.1[k]]) a s o, ()) := by
  have e4 := vPush p q u l a s o p.2.2.2.1[k] h
  have hg := at_get hp
  unfold N43 M43
  obtain ⟨c0, c1, c2⟩ := c
  simp only at hk
  subst hk
  generalize p.2.2.2.1[k] = z at *
  obtain ⟨p0, p1, p2, p3, p4, p5⟩ := p
  obtain ⟨u0, u1⟩ := u
  obtain ⟨z0, z1⟩ := z
  unfold mc at *
  simp only [] at *
  rw [hg]
  simp only [Option.bind_some]
  rw [e4]
  rfl
theorem vLoad (c : Int × Int × Int) (k : Nat) (hk : c.2.1 = (k : Int)) (hp : k < q.length) (hq : -9223372036854775808 ≤ q[k] ∧ q[k] ≤ 9223372036854775807) (h : l.length ≤ 1000000) : N44 (mc p q u l a s o, c, ()) = some (mc p q u (l ++ [(q[k] / 18446744073709551616, q[k] % 18446744073709551616)]) a s o, ()) := by
  have e4 := vPush p q u l a s o (q[k] / 18446744073709551616, q[k] % 18446744073709551616) h
  have hg := at_get hp
  unfold N44 M44
  obtain ⟨c0, c1, c2⟩ := c
  simp only at hk
  subst hk
  have e2 := wOf hq
  generalize q[k] = z at *
  obtain ⟨p0, p1, p2, p3, p4, p5⟩ := p
  obtain ⟨u0, u1⟩ := u
  unfold mc at *
  simp only [] at *
  rw [hg]
  simp only [Option.bind_some]
  rw [e2]
  simp only [Option.bind_some]
  rw [e4]
  rfl
end
end Go.Proofs.YtaalnjfmcjdimaaGreat.E
/-
  Comparisons, signs, and numbers of one word, as the program's functions answer them. No condition beyond the words' own bounds.
-/
namespace Go.Proofs.YtaalnjfmcjdimaaGreat.E
open Go
set_option linter.unusedVariables false
theorem wSign {h l : Int} (b : WB h l) : N94 ((h, l), ()) = some (cmpv (wv h l) 0, ()) := by
  unfold N94 M94 cmpv
  simp only [bif_p, bif_and, bif_eq]
  unfold WB at b
  unfold wv
  (repeat' split) <;> first | rfl | (exfalso; omega)
theorem wCmp {a0 a1 b0 b1 : Int} (ha : WB a0 a1) (hb : WB b0 b1) : N93 ((a0, a1), (b0, b1), ()) = some (cmpv (wv a0 a1) (wv b0 b1), ()) := by
  obtain ⟨⟨p1, p2⟩, p3, p4⟩ := ha
  obtain ⟨⟨q1, q2⟩, q3, q4⟩ := hb
  unfold N93 M93 cmpv wv
  simp only [bif_p, bif_and, bif_eq]
  (repeat' split) <;> first | rfl | (exfalso; omega)
end Go.Proofs.YtaalnjfmcjdimaaGreat.E
/-
  The machine's instructions that compare. No condition but the words' own bounds and the pile's length.
-/
namespace Go.Proofs.YtaalnjfmcjdimaaGreat.E
open Go
set_option linter.unusedVariables false
set_option linter.unusedSimpArgs false
set_option maxRecDepth 100000
section
variable (p : VPrg) (q : List Int) (u : Wd) (l : List Wd) (a s : Int) (o : Bool)
theorem vLeast (y x : Wd) (c : Int × Int × Int) (h : l.length ≤ 999999) (hy : WB y.1 y.2) (hx : WB x.1 x.2) : N50 (mc p q u (l ++ [y, x]) a s o, c, ()) = some (mc p q u (l ++ [bif decide (cmpv (wv x.1 x.2) (wv y.1 y.2) < 0) then x else y]) a s o, ()) := by
  have e1 := vTwo p q u l a s o y x h
  have e2 := wCmp hx hy
  have e3 := vPush p q u l a s o x (by omega)
  have e4 := vPush p q u l a s o y (by omega)
  unfold N50 M50
  obtain ⟨p0, p1, p2, p3, p4, p5⟩ := p
  obtain ⟨u0, u1⟩ := u
  obtain ⟨c0, c1, c2⟩ := c
  obtain ⟨y0, y1⟩ := y
  obtain ⟨x0, x1⟩ := x
  unfold mc at *
  simp only [] at *
  rw [e1]
  simp only [Option.bind_some]
  rw [e2]
  simp only [Option.bind_some]
  rw [e3, e4]
  cases decide (cmpv (wv x0 x1) (wv y0 y1) < 0) <;> rfl
theorem vMost (y x : Wd) (c : Int × Int × Int) (h : l.length ≤ 999999) (hy : WB y.1 y.2) (hx : WB x.1 x.2) : N51 (mc p q u (l ++ [y, x]) a s o, c, ()) = some (mc p q u (l ++ [bif decide (cmpv (wv x.1 x.2) (wv y.1 y.2) > 0) then x else y]) a s o, ()) := by
  have e1 := vTwo p q u l a s o y x h
  have e2 := wCmp hx hy
  have e3 := vPush p q u l a s o x (by omega)
  have e4 := vPush p q u l a s o y (by omega)
  unfold N51 M51
  obtain ⟨p0, p1, p2, p3, p4, p5⟩ := p
  obtain ⟨u0, u1⟩ := u
  obtain ⟨c0, c1, c2⟩ := c
  obtain ⟨y0, y1⟩ := y
  obtain ⟨x0, x1⟩ := x
  unfold mc at *
  simp only [] at *
  rw [e1]
  simp only [Option.bind_some]
  rw [e2]
  simp only [Option.bind_some]
  rw [e3, e4]
  cases decide (cmpv (wv x0 x1) (wv y0 y1) > 0) <;> rfl
end
end Go.Proofs.YtaalnjfmcjdimaaGreat.E
/-
  Quotients of words, as the program's functions answer them. No condition beyond the words' own bounds.
-/
namespace Go.Proofs.YtaalnjfmcjdimaaGreat.E
open Go
set_option linter.unusedVariables false
set_option maxRecDepth 100000
structure Dig (D n u Q : Int) : Prop where
  lo : Q * D ≤ n * 4294967296 + u
  hi : n * 4294967296 + u < Q * D + D
  q0 : 0 ≤ Q
  q1 : Q ≤ 4294967295
theorem dig_of {D n u : Int} (hD : 0 < D) (hn : 0 ≤ n ∧ n < D) (hu : 0 ≤ u ∧ u ≤ 4294967295) : Dig D n u ((n * 4294967296 + u) / D) := by
  have h1 := Int.mul_ediv_add_emod (n * 4294967296 + u) D
  have h2 := Int.emod_nonneg (n * 4294967296 + u) (Int.ne_of_gt hD)
  have h3 := Int.emod_lt_of_pos (n * 4294967296 + u) hD
  have h4 : 0 ≤ (n * 4294967296 + u) / D := Int.ediv_nonneg (by omega) (by omega)
  have h5 : (n * 4294967296 + u) / D < 4294967296 := Int.ediv_lt_of_lt_mul hD (by omega)
  rw [Int.mul_comm] at h1
  exact ⟨by omega, by omega, h4, by omega⟩
theorem dig_above {D d1 d0 n u Q q r : Int} (hD : D = d1 * 4294967296 + d0) (h1 : 0 ≤ d1) (h0 : 0 ≤ d0) (hQ : Dig D n u Q) (e : n = q * d1 + r) : (q * d0 > 4294967296 * r + u ↔ Q < q) := by
  have hD0 : 0 ≤ D := by omega
  have e1 : q * D = q * d1 * 4294967296 + q * d0 := by rw [hD, Int.mul_add, Int.mul_assoc]
  have h2 := hQ.lo
  have h3 := hQ.hi
  constructor
  · intro h
    rcases Int.lt_or_le Q q with h4 | h4
    · exact h4
    · have := Int.mul_le_mul_of_nonneg_right h4 hD0
      omega
  · intro h
    have := Int.mul_le_mul_of_nonneg_right (show Q + 1 ≤ q by omega) hD0
    rw [Int.add_mul, Int.one_mul] at this
    omega
theorem dig_found {D d1 d0 n u Q q r : Int} (hD : D = d1 * 4294967296 + d0) (h1 : 0 ≤ d1) (h0 : 0 ≤ d0 ∧ d0 ≤ 4294967295) (hu : 0 ≤ u) (hQ : Dig D n u Q) (e : n = q * d1 + r) (hr : 4294967296 ≤ r) (hq : 0 ≤ q ∧ q ≤ 4294967295) (ha : Q ≤ q) : q = Q := by
  rcases Int.lt_or_le Q q with h4 | h4
  · have := (dig_above hD h1 h0.1 hQ e).2 h4
    have h5 : q * d0 ≤ 4294967295 * 4294967295 := Int.mul_le_mul hq.2 h0.2 h0.1 (by omega)
    omega
  · omega
theorem dig_big {D d1 d0 n q r : Int} (hD : D = d1 * 4294967296 + d0) (h1 : 0 ≤ d1) (hn : n < D) (e : n = q * d1 + r) (hq : 4294967296 ≤ q) : r < d0 := by
  have := Int.mul_le_mul_of_nonneg_right hq h1
  omega
theorem dig_test {D d1 d0 n u Q q r : Int} (hD : D = d1 * 4294967296 + d0) (h1 : 2147483648 ≤ d1 ∧ d1 ≤ 4294967295) (h0 : 0 ≤ d0 ∧ d0 ≤ 4294967295) (hn : 0 ≤ n ∧ n < D) (hu : 0 ≤ u ∧ u ≤ 4294967295) (hQ : Dig D n u Q) (e : n = q * d1 + r) (hr : 0 ≤ r ∧ r ≤ 4294967295) (ha : Q ≤ q) (hq2 : q ≤ 4294967297) {α : Type} (X Y : α) :
    (bif decide (q ≥ 4294967296) then X else bif decide (IntKind.wrap .u64 (q * d0) > IntKind.wrap .u64 (IntKind.wrap .u64 (4294967296 * r) + u)) then X else Y) = if Q < q then X else Y := by
  have hup := dig_above hD (by omega) h0.1 hQ e
  have hq0 := hQ.q0
  have hq1 := hQ.q1
  by_cases hb : q ≥ 4294967296
  · rw [bif_t (decide_eq_true hb), if_pos (by omega)]
  · rw [bif_f (decide_eq_false hb)]
    have hm : 0 ≤ q * d0 := Int.mul_nonneg (by omega) h0.1
    have hm2 : q * d0 ≤ 4294967295 * 4294967295 := Int.mul_le_mul (by omega) h0.2 h0.1 (by omega)
    rw [wui (n := q * d0) (by omega), wui (n := 4294967296 * r) (by omega), wui (n := 4294967296 * r + u) (by omega), bif_p]
    by_cases h : Q < q
    · rw [if_pos h, if_pos (hup.2 h)]
    · rw [if_neg h, if_neg fun k => h (hup.1 k)]
theorem dig_past {D d1 d0 n u Q q r : Int} (hD : D = d1 * 4294967296 + d0) (h1 : 2147483648 ≤ d1 ∧ d1 ≤ 4294967295) (h0 : 0 ≤ d0 ∧ d0 ≤ 4294967295) (hn : 0 ≤ n ∧ n < D) (hu : 0 ≤ u ∧ u ≤ 4294967295) (hQ : Dig D n u Q) (e : n = q * d1 + r) (hr : 0 ≤ r ∧ r ≤ 4294967295) (hlt : Q < q) (hr2 : r + d1 ≥ 4294967296) : q - 1 = Q := by
  have hq0 := hQ.q0
  have e' : n = (q - 1) * d1 + (r + d1) := by rw [Int.sub_mul, Int.one_mul]; omega
  have hq2 : q - 1 ≤ 4294967295 := by
    rcases Int.lt_or_le 4294967295 (q - 1) with h | h
    · have := dig_big hD (by omega) hn.2 e' (by omega)
      omega
    · exact h
  exact dig_found hD (by omega) h0 hu.1 hQ e' hr2 ⟨by omega, hq2⟩ (by omega)
theorem first_digit {D d1 d0 n u Q : Int} (s u2 : Int) (hD : D = d1 * 4294967296 + d0) (h1 : 2147483648 ≤ d1 ∧ d1 ≤ 4294967295) (h0 : 0 ≤ d0 ∧ d0 ≤ 4294967295) (hn : 0 ≤ n ∧ n < D) (hu : 0 ≤ u ∧ u ≤ 4294967295) (hQ : Dig D n u Q) :
    ∀ (t : Nat) (q r : Int), 4294967296 - r ≤ (t : Int) * 2147483648 → n = q * d1 + r → 0 ≤ r ∧ r ≤ 4294967295 → Q ≤ q → q ≤ 4294967297 →
      itr R107_0 t (D, s, d1, d0, n, u, u2, q, r, ()) = some (D, s, d1, d0, n, u, u2, Q, ()) := by
  intro t
  induction t with
  | zero =>
    intro q r ht e hr ha hq
    omega
  | succ t ih =>
    intro q r ht e hr ha hq
    have hq0 := hQ.q0
    have hround : R107_0 (D, s, d1, d0, n, u, u2, q, r, ()) = if Q < q then (bif decide (r + d1 ≥ 4294967296) then some (.inr (D, s, d1, d0, n, u, u2, q - 1, ())) else some (.inl (D, s, d1, d0, n, u, u2, q - 1, r + d1, ()))) else some (.inr (D, s, d1, d0, n, u, u2, q, ())) := by
      unfold R107_0 Q107_0
      simp only []
      rw [← dig_test hD h1 h0 hn hu hQ e hr ha hq]
      rw [wui (n := r + d1) (by omega)]
      by_cases hlt : Q < q
      · rw [wui (n := q - 1) (by omega)]
      · have : q = Q := by omega
        have := hQ.q1
        rw [bif_f (decide_eq_false (show ¬ q ≥ 4294967296 by omega)), bif_f (decide_eq_false (show ¬ q ≥ 4294967296 by omega))]
        have hm : 0 ≤ q * d0 := Int.mul_nonneg (by omega) h0.1
        have hm2 : q * d0 ≤ 4294967295 * 4294967295 := Int.mul_le_mul (by omega) h0.2 h0.1 (by omega)
        have hup := dig_above hD (by omega) h0.1 hQ e
        rw [wui (n := q * d0) (by omega), wui (n := 4294967296 * r) (by omega), wui (n := 4294967296 * r + u) (by omega), bif_f (decide_eq_false fun k => hlt (hup.1 k)), bif_f (decide_eq_false fun k => hlt (hup.1 k))]
    rw [itr_succ, hround]
    by_cases hlt : Q < q
    · rw [if_pos hlt]
      by_cases hr2 : r + d1 ≥ 4294967296
      · rw [bif_t (decide_eq_true hr2), dig_past hD h1 h0 hn hu hQ e hr hlt hr2]
      · rw [bif_f (decide_eq_false hr2)]
        exact ih (q - 1) (r + d1) (by omega) (by rw [Int.sub_mul, Int.one_mul]; omega) (by omega) (by omega) (by omega)
    · rw [if_neg hlt, show q = Q from by omega]
theorem second_digit {D d1 d0 n u Q : Int} (s q1 : Int) (hD : D = d1 * 4294967296 + d0) (h1 : 2147483648 ≤ d1 ∧ d1 ≤ 4294967295) (h0 : 0 ≤ d0 ∧ d0 ≤ 4294967295) (hn : 0 ≤ n ∧ n < D) (hu : 0 ≤ u ∧ u ≤ 4294967295) (hQ : Dig D n u Q) (m : Int) :
    ∀ (t : Nat) (q r : Int), 4294967296 - r ≤ (t : Int) * 2147483648 → n = q * d1 + r → 0 ≤ r ∧ r ≤ 4294967295 → Q ≤ q → q ≤ 4294967297 →
      itr R107_2 t (D, s, d1, d0, u, q1, r, m, q, ()) = some (D, s, u, q1, m, Q, ()) := by
  intro t
  induction t with
  | zero =>
    intro q r ht e hr ha hq
    omega
  | succ t ih =>
    intro q r ht e hr ha hq
    have hq0 := hQ.q0
    have hround : R107_2 (D, s, d1, d0, u, q1, r, m, q, ()) = if Q < q then (bif decide (r + d1 ≥ 4294967296) then some (.inr (D, s, u, q1, m, q - 1, ())) else some (.inl (D, s, d1, d0, u, q1, r + d1, m, q - 1, ()))) else some (.inr (D, s, u, q1, m, q, ())) := by
      unfold R107_2 Q107_2
      simp only []
      rw [← dig_test hD h1 h0 hn hu hQ e hr ha hq]
      rw [wui (n := r + d1) (by omega)]
      by_cases hlt : Q < q
      · rw [wui (n := q - 1) (by omega)]
      · have : q = Q := by omega
        have := hQ.q1
        rw [bif_f (decide_eq_false (show ¬ q ≥ 4294967296 by omega)), bif_f (decide_eq_false (show ¬ q ≥ 4294967296 by omega))]
        have hm : 0 ≤ q * d0 := Int.mul_nonneg (by omega) h0.1
        have hm2 : q * d0 ≤ 4294967295 * 4294967295 := Int.mul_le_mul (by omega) h0.2 h0.1 (by omega)
        have hup := dig_above hD (by omega) h0.1 hQ e
        rw [wui (n := q * d0) (by omega), wui (n := 4294967296 * r) (by omega), wui (n := 4294967296 * r + u) (by omega), bif_f (decide_eq_false fun k => hlt (hup.1 k)), bif_f (decide_eq_false fun k => hlt (hup.1 k))]
    rw [itr_succ, hround]
    by_cases hlt : Q < q
    · rw [if_pos hlt]
      by_cases hr2 : r + d1 ≥ 4294967296
      · rw [bif_t (decide_eq_true hr2), dig_past hD h1 h0 hn hu hQ e hr hlt hr2]
      · rw [bif_f (decide_eq_false hr2)]
        exact ih (q - 1) (r + d1) (by omega) (by rw [Int.sub_mul, Int.one_mul]; omega) (by omega) (by omega) (by omega)
    · rw [if_neg hlt, show q = Q from by omega]
theorem guess {D d1 d0 n u Q : Int} (hD : D = d1 * 4294967296 + d0) (h1 : 2147483648 ≤ d1 ∧ d1 ≤ 4294967295) (h0 : 0 ≤ d0 ∧ d0 ≤ 4294967295) (hn : 0 ≤ n ∧ n < D) (hu : 0 ≤ u ∧ u ≤ 4294967295) (hQ : Dig D n u Q) :
    n = n / d1 * d1 + n % d1 ∧ (0 ≤ n % d1 ∧ n % d1 ≤ 4294967295) ∧ Q ≤ n / d1 ∧ n / d1 ≤ 4294967297 ∧ 0 ≤ n / d1 := by
  have e := Int.mul_ediv_add_emod n d1
  rw [Int.mul_comm] at e
  have r0 := Int.emod_nonneg n (show d1 ≠ 0 by omega)
  have r1 := Int.emod_lt_of_pos n (show 0 < d1 by omega)
  have q0 : 0 ≤ n / d1 := Int.ediv_nonneg hn.1 (by omega)
  have hup := dig_above hD (by omega) h0.1 hQ e.symm
  refine ⟨by omega, ⟨r0, by omega⟩, ?_, ?_, q0⟩
  · rcases Int.lt_or_le (n / d1) Q with h | h
    · exfalso
      have h2 := hQ.lo
      have h3 := Int.mul_le_mul_of_nonneg_right (show n / d1 + 1 ≤ Q by omega) (show 0 ≤ D by omega)
      have e1 : (n / d1 + 1) * D = (n / d1 * d1 + d1) * 4294967296 + (n / d1 * d0 + d0) := by rw [hD, Int.add_mul, Int.one_mul, Int.mul_add, Int.add_mul, Int.mul_assoc]; omega
      have h4 : 0 ≤ n / d1 * d0 := Int.mul_nonneg q0 h0.1
      omega
    · exact h
  · rcases Int.lt_or_le 4294967297 (n / d1) with h | h
    · exfalso
      have := Int.mul_le_mul_of_nonneg_right (show 4294967298 ≤ n / d1 by omega) (show 0 ≤ d1 by omega)
      omega
    · exact h
theorem or_parts {a b S : Int} {s : Nat} (hS : S = 2 ^ s) (ha : 0 ≤ a) (hb : 0 ≤ b ∧ b < S) (h : a * S + b ≤ 18446744073709551615) : IntKind.wrap .u64 ↑(BitVec.toNat (BitVec.ofInt 64 (a * S) ||| BitVec.ofInt 64 b)) = a * S + b := by
  have hS0 : 0 < S := by rw [hS]; exact Int.pow_pos (by decide)
  have h0 : 0 ≤ a * S := Int.mul_nonneg ha (by omega)
  obtain ⟨A, rfl⟩ := Int.eq_ofNat_of_zero_le ha
  obtain ⟨B, rfl⟩ := Int.eq_ofNat_of_zero_le hb.1
  have e : ((A : Int) * S) = ((A * 2 ^ s : Nat) : Int) := by rw [hS]; simp
  have hB : B < 2 ^ s := by have := hb.2; rw [hS] at this; exact_mod_cast this
  rw [e] at h ⊢
  have := u64_or_nat (A * 2 ^ s) B (by omega) (by omega)
  rw [show IntKind.wrap .u64 ↑(BitVec.toNat (BitVec.ofInt 64 ((A * 2 ^ s : Nat) : Int) ||| BitVec.ofInt 64 ((B : Nat) : Int))) = Go.bits .or .u64 ((A * 2 ^ s : Nat) : Int) ((B : Nat) : Int) from rfl, this, Nat.mul_comm, ← Nat.two_pow_add_eq_or_of_lt hB]
  simp
theorem div_mod_of {a b q r : Int} (hb : 0 < b) (e : a = q * b + r) (hr : 0 ≤ r ∧ r < b) : a / b = q ∧ a % b = r := by
  subst e
  refine ⟨?_, ?_⟩
  · rw [Int.add_comm, Int.add_mul_ediv_right _ _ (by omega), Int.ediv_eq_zero_of_lt hr.1 hr.2, Int.zero_add]
  · rw [Int.add_comm, Int.add_mul_emod_self_right, Int.emod_eq_of_lt hr.1 hr.2]
end Go.Proofs.YtaalnjfmcjdimaaGreat.E
/-
  Quotients of words and of numbers of two words, as the program's functions answer them. No condition beyond the words' own bounds.
-/
namespace Go.Proofs.YtaalnjfmcjdimaaGreat.E
open Go
set_option linter.unusedVariables false
set_option maxRecDepth 100000
theorem wLen64 {x : Int} (h : 0 ≤ x ∧ x ≤ 18446744073709551615) : N110 (x, ()) = some (((Go.bitLen x.toNat : Nat) : Int), ()) := by
  unfold N110 M110
  simp only [fdiv_pos (show (0 : Int) ≤ 4294967296 by omega), fdiv_pos (show (0 : Int) ≤ 65536 by omega), fdiv_pos (show (0 : Int) ≤ 256 by omega)]
  generalize hT : List.toArray (List.append (List.append _ _) (List.append _ _)) = T
  have tab : ∀ i : _root_.Fin 256, T[i.val]? = some (UInt8.ofNat (Go.bitLen i.val)) := by subst hT; decide +kernel
  have l8 : ∀ i : _root_.Fin 256, ((UInt8.ofNat (Go.bitLen i.val)).toNat : Int) = ((Go.bitLen i.val : Nat) : Int) ∧ Go.bitLen i.val ≤ 8 := by decide +kernel
  clear hT
  obtain ⟨X, rfl⟩ := Int.eq_ofNat_of_zero_le h.1
  rw [Int.toNat_natCast]
  have sh := fun b (h : X / 2 ^ b ≠ 0) => Go.bitLen_shift X b h
  have key : ∀ (Y b : Nat), Y < 256 → Go.bitLen X = b + Go.bitLen Y → b ≤ 56 → ((bif decide (0 ≤ IntKind.wrap .u8 (Y : Int)) then T[Int.toNat (IntKind.wrap .u8 (Y : Int))]? else none).bind fun y3 => some (IntKind.wrap .i64 ((b : Int) + IntKind.wrap .i64 ↑(UInt8.toNat y3)), ())) = some (((Go.bitLen X : Nat) : Int), ()) := by
    intro Y b hY e hb
    have e1 : IntKind.wrap .u8 (Y : Int) = (Y : Int) := by rw [w8]; omega
    rw [e1, bif_t (decide_eq_true (by omega)), Int.toNat_natCast, tab ⟨Y, hY⟩]
    obtain ⟨k1, k2⟩ := l8 ⟨Y, hY⟩
    simp only [Option.bind_some]
    rw [k1]
    simp only at k1 k2 ⊢
    rw [wsi (n := ((Go.bitLen Y : Nat) : Int)) (by omega), wsi (by omega), e]
    congr 2
  have key0 : ∀ (Y : Nat), Y < 256 → Go.bitLen X = Go.bitLen Y → ((bif decide (0 ≤ IntKind.wrap .u8 (Y : Int)) then T[Int.toNat (IntKind.wrap .u8 (Y : Int))]? else none).bind fun y3 => some (IntKind.wrap .i64 (0 + IntKind.wrap .i64 ↑(UInt8.toNat y3)), ())) = some (((Go.bitLen X : Nat) : Int), ()) := by
    intro Y hY e
    exact key Y 0 hY (by omega) (by omega)
  have hX : X ≤ 18446744073709551615 := by omega
  have d : ∀ b : Nat, ((X : Int) / ((2 ^ b : Nat) : Int)) = ((X / 2 ^ b : Nat) : Int) := fun b => (Int.natCast_ediv _ _).symm
  have sh2 : ∀ b, 2 ^ b ≤ X → Go.bitLen X = b + Go.bitLen (X / 2 ^ b) := fun b hb => sh b (by have := Nat.div_pos hb (Nat.two_pow_pos b); omega)
  have e32 : (X : Int) / 4294967296 = ((X / 2 ^ 32 : Nat) : Int) := d 32
  have e16 : (X : Int) / 65536 = ((X / 2 ^ 16 : Nat) : Int) := d 16
  have e8 : (X : Int) / 256 = ((X / 2 ^ 8 : Nat) : Int) := d 8
  have e48 : (X : Int) / 4294967296 / 65536 = ((X / 2 ^ 48 : Nat) : Int) := by rw [Int.ediv_ediv_of_nonneg (by omega)]; exact d 48
  have e56 : (X : Int) / 4294967296 / 65536 / 256 = ((X / 2 ^ 56 : Nat) : Int) := by rw [Int.ediv_ediv_of_nonneg (by omega), Int.ediv_ediv_of_nonneg (by omega)]; exact d 56
  have e40 : (X : Int) / 4294967296 / 256 = ((X / 2 ^ 40 : Nat) : Int) := by rw [Int.ediv_ediv_of_nonneg (by omega)]; exact d 40
  have e24 : (X : Int) / 65536 / 256 = ((X / 2 ^ 24 : Nat) : Int) := by rw [Int.ediv_ediv_of_nonneg (by omega)]; exact d 24
  rw [e56, e48, e40, e32, e24, e16, e8]
  simp only [bif_p]
  have p8 : (2 : Nat) ^ 8 = 256 := rfl
  have p16 : (2 : Nat) ^ 16 = 65536 := rfl
  have p24 : (2 : Nat) ^ 24 = 16777216 := rfl
  have p32 : (2 : Nat) ^ 32 = 4294967296 := rfl
  have p40 : (2 : Nat) ^ 40 = 1099511627776 := rfl
  have p48 : (2 : Nat) ^ 48 = 281474976710656 := rfl
  have p56 : (2 : Nat) ^ 56 = 72057594037927936 := rfl
  have s8 := sh2 8
  have s16 := sh2 16
  have s24 := sh2 24
  have s32 := sh2 32
  have s40 := sh2 40
  have s48 := sh2 48
  have s56 := sh2 56
  rw [p8] at *
  rw [p16] at *
  rw [p24] at *
  rw [p32] at *
  rw [p40] at *
  rw [p48] at *
  rw [p56] at *
  by_cases h32 : X ≥ 4294967296
  · rw [if_pos (show (X : Int) ≥ 4294967296 by omega)]
    by_cases h16 : X / 4294967296 ≥ 65536
    · rw [if_pos (show ((X / 4294967296 : Nat) : Int) ≥ 65536 by omega)]
      by_cases h8 : X / 281474976710656 ≥ 256
      · rw [if_pos (show ((X / 281474976710656 : Nat) : Int) ≥ 256 by omega)]
        have := key (X / 72057594037927936) 56 (by omega) (s56 (by omega)) (by omega)
        rw [bif_p] at this; exact this
      · rw [if_neg (show ¬ ((X / 281474976710656 : Nat) : Int) ≥ 256 by omega)]
        have := key (X / 281474976710656) 48 (by omega) (s48 (by omega)) (by omega)
        rw [bif_p] at this; exact this
    · rw [if_neg (show ¬ ((X / 4294967296 : Nat) : Int) ≥ 65536 by omega)]
      by_cases h8 : X / 4294967296 ≥ 256
      · rw [if_pos (show ((X / 4294967296 : Nat) : Int) ≥ 256 by omega)]
        have := key (X / 1099511627776) 40 (by omega) (s40 (by omega)) (by omega)
        rw [bif_p] at this; exact this
      · rw [if_neg (show ¬ ((X / 4294967296 : Nat) : Int) ≥ 256 by omega)]
        have := key (X / 4294967296) 32 (by omega) (s32 (by omega)) (by omega)
        rw [bif_p] at this; exact this
  · rw [if_neg (show ¬ (X : Int) ≥ 4294967296 by omega)]
    by_cases h16 : X ≥ 65536
    · rw [if_pos (show (X : Int) ≥ 65536 by omega)]
      by_cases h8 : X / 65536 ≥ 256
      · rw [if_pos (show ((X / 65536 : Nat) : Int) ≥ 256 by omega)]
        have := key (X / 16777216) 24 (by omega) (s24 (by omega)) (by omega)
        rw [bif_p] at this; exact this
      · rw [if_neg (show ¬ ((X / 65536 : Nat) : Int) ≥ 256 by omega)]
        have := key (X / 65536) 16 (by omega) (s16 (by omega)) (by omega)
        rw [bif_p] at this; exact this
    · rw [if_neg (show ¬ (X : Int) ≥ 65536 by omega)]
      by_cases h8 : X ≥ 256
      · rw [if_pos (show (X : Int) ≥ 256 by omega)]
        have := key (X / 256) 8 (by omega) (s8 (by omega)) (by omega)
        rw [bif_p] at this; exact this
      · rw [if_neg (show ¬ (X : Int) ≥ 256 by omega)]
        have := key0 X (by omega) rfl
        rw [bif_p] at this; exact this
theorem bitLen_two (y : Int) (h : 1 ≤ y ∧ y ≤ 18446744073709551615) : 1 ≤ Go.bitLen y.toNat ∧ Go.bitLen y.toNat ≤ 64 ∧ (2 : Int) ^ (Go.bitLen y.toNat - 1) ≤ y ∧ y < 2 ^ Go.bitLen y.toNat := by
  obtain ⟨Y, rfl⟩ := Int.eq_ofNat_of_zero_le (show 0 ≤ y by omega)
  rw [Int.toNat_natCast]
  obtain ⟨h3, h2⟩ := Go.bitLen_spec Y
  have h2 := h2 (by omega)
  have h1 : 1 ≤ Go.bitLen Y := by
    rcases Nat.eq_zero_or_pos (Go.bitLen Y) with e | e
    · rw [e] at h3; omega
    · exact e
  refine ⟨h1, ?_, by exact_mod_cast h2, by exact_mod_cast h3⟩
  rcases Nat.lt_or_ge 64 (Go.bitLen Y) with h4 | h4
  · have h5 : 2 ^ 64 ≤ 2 ^ (Go.bitLen Y - 1) := Nat.pow_le_pow_right (by decide) (by omega)
    omega
  · exact h4
theorem wrap_div {m d1 : Int} {D d0 : Int} (hD : D = d1 * 4294967296 + d0) (h1 : 2147483648 ≤ d1 ∧ d1 ≤ 4294967295) (h0 : 0 ≤ d0 ∧ d0 ≤ 4294967295) (hm : 0 ≤ m ∧ m < D) {u Q : Int} (hu : 0 ≤ u ∧ u ≤ 4294967295) (hQ : Dig D m u Q) :
    IntKind.wrap .u64 (Int.tdiv m d1) = m / d1 ∧ IntKind.wrap .u64 (m - IntKind.wrap .u64 (m / d1 * d1)) = m % d1 := by
  obtain ⟨e, hr, hq, hq2, hq0⟩ := guess hD h1 h0 hm hu hQ
  have hp : 0 ≤ m / d1 * d1 := Int.mul_nonneg hq0 (by omega)
  rw [tdiv_pos hm.1, wui (n := m / d1) (by omega), wui (n := m / d1 * d1) (by omega), wui (by omega)]
  exact ⟨rfl, by omega⟩
theorem pow_min {s : Nat} (h : s ≤ 64) : (2 : Int) ^ min (Int.toNat (s : Int)) 64 = 2 ^ s := by rw [Int.toNat_natCast, Nat.min_eq_left h]
theorem wDiv64 {hi lo y : Int} (h1 : 0 ≤ hi ∧ hi < y) (hy : y ≤ 18446744073709551615) (hl : 0 ≤ lo ∧ lo ≤ 18446744073709551615) :
    N107 (hi, lo, y, ()) = some ((hi * 18446744073709551616 + lo) / y, (hi * 18446744073709551616 + lo) % y, ()) := by
  unfold N107 M107
  simp only []
  rw [bif_f (show (y == 0) = false from by simp; omega), bif_f (decide_eq_false (by omega))]
  by_cases h0 : hi = 0
  · rw [bif_t (show (hi == 0) = true from by simpa using h0), bif_t (show (!y == 0) = true from by simp; omega)]
    simp only [Option.bind_some]
    rw [h0, Int.zero_mul, Int.zero_add, tdiv_pos hl.1, tmod_pos hl.1]
    have a1 : 0 ≤ lo / y := Int.ediv_nonneg hl.1 (by omega)
    have a2 : lo / y ≤ lo := Int.ediv_le_self _ hl.1
    rw [wui (by omega)]
  · rw [bif_f (show (hi == 0) = false from by simpa using h0)]
    obtain ⟨l1, l2, l3, l4⟩ := bitLen_two y (by omega)
    have hlz : N109 (y, ()) = some (((64 - Go.bitLen y.toNat : Nat) : Int), ()) := by
      unfold N109 M109
      simp only []
      rw [wLen64 (by omega)]
      simp only [Option.bind_some]
      rw [wsi (by omega)]
      congr 2
      omega
    rw [hlz]
    simp only [Option.bind_some]
    generalize hL : Go.bitLen y.toNat = L at *
    obtain ⟨s, hs⟩ : ∃ s, s = 64 - L := ⟨_, rfl⟩
    rw [← hs, wui (n := (s : Int)) (by omega), show (64 : Int) - s = ((64 - s : Nat) : Int) from by omega, wui (n := ((64 - s : Nat) : Int)) (by omega)]
    rw [bif_t (decide_eq_true (show (0 : Int) ≤ (s : Int) by omega)), bif_t (decide_eq_true (show (0 : Int) ≤ ((64 - s : Nat) : Int) by omega))]
    simp only [Option.bind_some]
    rw [pow_min (by omega), pow_min (by omega)]
    have hST : (2 : Int) ^ s * 2 ^ (64 - s) = 18446744073709551616 := by rw [← Int.pow_add, show s + (64 - s) = 64 from by omega]; decide
    have hS : (0 : Int) < 2 ^ s := Int.pow_pos (by decide)
    have hT : (0 : Int) < 2 ^ (64 - s) := Int.pow_pos (by decide)
    have hTL : (2 : Int) ^ (64 - s) = 2 ^ L := by rw [show 64 - s = L from by omega]
    have hT1 : (2 : Int) ^ (64 - s) = 2 * 2 ^ (L - 1) := by
      have e : (2 : Int) ^ L = 2 ^ (L - 1 + 1) := by congr 1; omega
      rw [hTL, e, Int.pow_succ]; omega
    have hD1 : y * 2 ^ s ≤ 18446744073709551616 - 2 ^ s := by
      have := Int.mul_le_mul_of_nonneg_right (show y + 1 ≤ 2 ^ (64 - s) by omega) (Int.le_of_lt hS)
      rw [Int.add_mul, Int.one_mul, Int.mul_comm (2 ^ (64 - s))] at this
      omega
    have hD2 : 9223372036854775808 ≤ y * 2 ^ s := by
      have := Int.mul_le_mul_of_nonneg_right (show 2 ^ (64 - s) ≤ 2 * y by omega) (Int.le_of_lt hS)
      rw [Int.mul_comm (2 ^ (64 - s)), Int.mul_assoc] at this
      omega
    have hhi : hi * 2 ^ s ≤ y * 2 ^ s - 2 ^ s := by
      have := Int.mul_le_mul_of_nonneg_right (show hi + 1 ≤ y by omega) (Int.le_of_lt hS)
      rw [Int.add_mul, Int.one_mul] at this
      omega
    have hhi0 : 0 ≤ hi * 2 ^ s := Int.mul_nonneg h1.1 (Int.le_of_lt hS)
    have hlT : 0 ≤ lo / 2 ^ (64 - s) ∧ lo / 2 ^ (64 - s) < 2 ^ s := ⟨Int.ediv_nonneg hl.1 (Int.le_of_lt hT), Int.ediv_lt_of_lt_mul hT (by omega)⟩
    rw [wui (n := y * 2 ^ s) (by omega), wui (n := hi * 2 ^ s) (by omega), fdiv_pos (a := lo) (b := 2 ^ (64 - s)) (by omega), wu (lo * 2 ^ s)]
    rw [or_parts rfl h1.1 hlT (by omega)]
    have hlo2 : lo * 2 ^ s = lo / 2 ^ (64 - s) * 18446744073709551616 + lo * 2 ^ s % 18446744073709551616 := by
      have e1 := Int.mul_ediv_add_emod lo (2 ^ (64 - s))
      have e2 : lo * 2 ^ s / 18446744073709551616 = lo / 2 ^ (64 - s) := by
        rw [← hST, Int.mul_comm lo, Int.mul_ediv_mul_of_pos _ _ hS]
      have e3 := Int.mul_ediv_add_emod (lo * 2 ^ s) 18446744073709551616
      rw [e2] at e3
      omega
    generalize hlx : lo / 2 ^ (64 - s) = t at *
    generalize hly : lo * 2 ^ s % 18446744073709551616 = x at *
    have hx : 0 ≤ x ∧ x < 18446744073709551616 := by rw [← hly]; omega
    generalize hDy : y * 2 ^ s = D at *
    rw [fdiv_pos (a := D) (b := 4294967296) (by omega), fdiv_pos (a := x) (b := 4294967296) (by omega), bif_t (show (!D / 4294967296 == 0) = true from by simp; omega)]
    simp only [Option.bind_some]
    rw [and_low (z := D) (by omega), and_low (z := x) (by omega)]
    -- the two digits
    have gD : D = D / 4294967296 * 4294967296 + D % 4294967296 := by omega
    have gd1 : 2147483648 ≤ D / 4294967296 ∧ D / 4294967296 ≤ 4294967295 := by omega
    have gd0 : 0 ≤ D % 4294967296 ∧ D % 4294967296 ≤ 4294967295 := by omega
    have gn : 0 ≤ hi * 2 ^ s + t ∧ hi * 2 ^ s + t < D := by omega
    have gu1 : 0 ≤ x / 4294967296 ∧ x / 4294967296 ≤ 4294967295 := by omega
    have gu0 : 0 ≤ x % 4294967296 ∧ x % 4294967296 ≤ 4294967295 := by omega
    have gx : x = x / 4294967296 * 4294967296 + x % 4294967296 := by omega
    generalize D / 4294967296 = d1 at *
    generalize D % 4294967296 = d0 at *
    generalize x / 4294967296 = u1 at *
    generalize x % 4294967296 = u0 at *
    generalize hne : hi * 2 ^ s + t = n at *
    have hD0 : 0 < D := by omega
    have hQ1 := dig_of hD0 gn gu1
    generalize (n * 4294967296 + u1) / D = Q1 at hQ1
    have a1 := hQ1.lo
    have a2 := hQ1.hi
    have a3 := hQ1.q0
    have a4 := hQ1.q1
    have hn2 : 0 ≤ n * 4294967296 + u1 - Q1 * D ∧ n * 4294967296 + u1 - Q1 * D < D := by omega
    have hQ0 := dig_of hD0 hn2 gu0
    generalize hn2e : n * 4294967296 + u1 - Q1 * D = n2 at *
    generalize (n2 * 4294967296 + u0) / D = Q0 at hQ0
    have b1 := hQ0.lo
    have b2 := hQ0.hi
    have b3 := hQ0.q0
    have b4 := hQ0.q1
    obtain ⟨w1, w2⟩ := wrap_div gD gd1 gd0 gn gu1 hQ1
    obtain ⟨e, hr, hq, hq2, hq0⟩ := guess gD gd1 gd0 gn gu1 hQ1
    rw [w1, w2]
    have F1 := itrs_of (first_digit (s : Int) u0 gD gd1 gd0 gn gu1 hQ1 2 (n / d1) (n % d1) (by omega) e hr hq hq2) (by omega)
    rw [F1]
    simp only [Option.bind_some]
    rw [bif_t (show (!d1 == 0) = true from by simp; omega)]
    simp only [Option.bind_some]
    have e21 : IntKind.wrap .u64 (IntKind.wrap .u64 (IntKind.wrap .u64 (n * 4294967296) + u1) - IntKind.wrap .u64 (Q1 * D)) = n2 := by
      simp only [wu]
      omega
    rw [e21]
    obtain ⟨w3, w4⟩ := wrap_div gD gd1 gd0 hn2 gu0 hQ0
    obtain ⟨f, fr, fq, fq2, fq0⟩ := guess gD gd1 gd0 hn2 gu0 hQ0
    rw [w3, w4]
    have F2 := itrs_of (second_digit (s : Int) Q1 gD gd1 gd0 hn2 gu0 hQ0 n2 2 (n2 / d1) (n2 % d1) (by omega) f fr fq fq2) (by omega)
    rw [F2]
    simp only [Option.bind_some]
    rw [bif_t (decide_eq_true (show (0 : Int) ≤ (s : Int) by omega))]
    simp only [Option.bind_some]
    rw [pow_min (by omega)]
    have e22 : IntKind.wrap .u64 (IntKind.wrap .u64 (IntKind.wrap .u64 (n2 * 4294967296) + u0) - IntKind.wrap .u64 (Q0 * D)) = n2 * 4294967296 + u0 - Q0 * D := by
      simp only [wu]
      omega
    rw [e22, wui (n := Q1 * 4294967296) (by omega), wui (n := Q1 * 4294967296 + Q0) (by omega), fdiv_pos (by omega)]
    generalize hre : n2 * 4294967296 + u0 - Q0 * D = r2 at *
    generalize hqe : Q1 * 4294967296 + Q0 = q at *
    have eq2 : n * 18446744073709551616 + x = q * D + r2 := by
      rw [← hqe, Int.add_mul, Int.mul_assoc, Int.mul_comm 4294967296 D, ← Int.mul_assoc]
      omega
    have eM : (hi * 18446744073709551616 + lo) * 2 ^ s = q * D + r2 := by
      rw [Int.add_mul, hlo2, Int.mul_right_comm]
      omega
    have er : r2 = (hi * 18446744073709551616 + lo - q * y) * 2 ^ s := by
      rw [Int.sub_mul, Int.mul_assoc q y, hDy]
      omega
    have e1 : r2 / 2 ^ s = hi * 18446744073709551616 + lo - q * y := by rw [er, Int.mul_ediv_cancel _ (by omega)]
    have r0 : 0 ≤ r2 := by omega
    have r1 : r2 < D := by omega
    have hr0 : 0 ≤ hi * 18446744073709551616 + lo - q * y := by rw [← e1]; exact Int.ediv_nonneg r0 (Int.le_of_lt hS)
    have hr1 : hi * 18446744073709551616 + lo - q * y < y := by rw [← e1]; exact Int.ediv_lt_of_lt_mul hS (by rw [hDy]; exact r1)
    obtain ⟨f1, f2⟩ := div_mod_of (a := hi * 18446744073709551616 + lo) (b := y) (q := q) (r := hi * 18446744073709551616 + lo - q * y) (by omega) (by omega) ⟨hr0, hr1⟩
    rw [f1, f2, e1]
end Go.Proofs.YtaalnjfmcjdimaaGreat.E
/-
  Quotients and rests of numbers of two words, as the program's functions answer them. No condition beyond the words' own bounds.
-/
namespace Go.Proofs.YtaalnjfmcjdimaaGreat.E
open Go
set_option linter.unusedVariables false
set_option maxRecDepth 100000
theorem and_bit {x : Int} (h : 0 ≤ x ∧ x ≤ 18446744073709551615) : IntKind.wrap .u64 ↑(BitVec.toNat (BitVec.ofInt 64 x &&& BitVec.ofInt 64 1)) = x % 2 := by
  obtain ⟨X, rfl⟩ := Int.eq_ofNat_of_zero_le h.1
  have := u64_and_nat X 1 (by omega) (by omega)
  rw [show IntKind.wrap .u64 ↑(BitVec.toNat (BitVec.ofInt 64 (X : Int) &&& BitVec.ofInt 64 1)) = Go.bits .and .u64 (X : Int) ((1 : Nat) : Int) from rfl, this, Nat.and_one_is_mod]
  simp
theorem two_step {a : Int} {m : Nat} : a / 2 ^ m = 2 * (a / 2 ^ (m + 1)) + a / 2 ^ m % 2 := by
  have hp : (0 : Int) < 2 ^ m := Int.pow_pos (by decide)
  rw [Int.pow_succ, ← Int.ediv_ediv_of_nonneg (Int.le_of_lt hp)]
  omega
theorem qr_l0 (a al bh bl : Int) (hbh : 0 ≤ bh) (hbl : 0 ≤ bl ∧ bl ≤ 18446744073709551615) (hB : bh * 18446744073709551616 + bl ≤ 170141183460469231731687303715884105728) (hB0 : 18446744073709551616 ≤ bh * 18446744073709551616 + bl)
    (hal : 0 ≤ al ∧ al ≤ 18446744073709551615) (ha : 0 ≤ a) (hal2 : a % 18446744073709551616 = al) (haB : a < (bh * 18446744073709551616 + bl) * 18446744073709551616) : ∀ (m : Nat) (Q R : Int), m ≤ 64 →
      a / 2 ^ m = Q * (bh * 18446744073709551616 + bl) + R → 0 ≤ R ∧ R < bh * 18446744073709551616 + bl → 0 ≤ Q →
      itr R96_0 (m + 1) (al, bh, bl, Q * 2 ^ m, R / 18446744073709551616, R % 18446744073709551616, (m : Int) - 1, ()) =
        some (a / (bh * 18446744073709551616 + bl), a % (bh * 18446744073709551616 + bl) / 18446744073709551616, a % (bh * 18446744073709551616 + bl) % 18446744073709551616, ()) := by
  intro m
  induction m with
  | zero =>
    intro Q R hm e hR hQ
    rw [Int.pow_zero, Int.ediv_one] at e
    obtain ⟨e1, e2⟩ := div_mod_of (by omega) e hR
    refine itr_out ?_
    unfold R96_0 Q96_0
    simp only []
    rw [bif_f (decide_eq_false (by omega)), e1, e2, Int.pow_zero, Int.mul_one]
  | succ m ih =>
    intro Q R hm e hR hQ
    have hp : (0 : Int) < 2 ^ m := Int.pow_pos (by decide)
    have hp2 : (2 : Int) ^ (m + 1) = 2 * 2 ^ m := by rw [Int.pow_succ]; omega
    have hstep := two_step (a := a) (m := m)
    have hbit : 0 ≤ a / 2 ^ m % 2 ∧ a / 2 ^ m % 2 ≤ 1 := by omega
    have ebit : al / 2 ^ m % 2 = a / 2 ^ m % 2 := by
      have h1 := Int.mul_ediv_add_emod a 18446744073709551616
      rw [hal2] at h1
      have h2 : (18446744073709551616 : Int) = 2 ^ m * (2 * 2 ^ (63 - m)) := by
        rw [show (18446744073709551616 : Int) = 2 ^ 64 from by decide, show (64 : Nat) = m + (1 + (63 - m)) from by omega, Int.pow_add, Int.pow_add]
        rfl
      have h3 : a / 2 ^ m = 2 * (2 ^ (63 - m) * (a / 18446744073709551616)) + al / 2 ^ m := by
        conv => lhs; rw [← h1, h2]
        rw [show (2 : Int) ^ m * (2 * 2 ^ (63 - m)) * (a / (2 ^ m * (2 * 2 ^ (63 - m)))) + al = al + 2 ^ m * (2 * (2 ^ (63 - m) * (a / (2 ^ m * (2 * 2 ^ (63 - m)))))) from by
          rw [Int.mul_assoc (2 ^ m), Int.mul_assoc 2]; omega, Int.add_mul_ediv_left _ _ (by omega), ← h2]
        omega
      omega
    have o1 : IntKind.wrap .u64 ↑(BitVec.toNat (BitVec.ofInt 64 (IntKind.wrap .u64 (R / 18446744073709551616 * 2)) ||| BitVec.ofInt 64 (Int.fdiv (R % 18446744073709551616) 9223372036854775808))) = (2 * R + a / 2 ^ m % 2) / 18446744073709551616 := by
      rw [fdiv_pos (by omega), wui (n := R / 18446744073709551616 * 2) (by omega), or_parts (s := 1) (by rfl) (by omega) (by omega) (by omega)]
      omega
    have o2 : IntKind.wrap .u64 ↑(BitVec.toNat (BitVec.ofInt 64 (IntKind.wrap .u64 (R % 18446744073709551616 * 2)) ||| BitVec.ofInt 64 (IntKind.wrap .u64 ↑(BitVec.toNat (BitVec.ofInt 64 (Int.fdiv al (2 ^ min (Int.toNat (m : Int)) 64)) &&& BitVec.ofInt 64 1))))) = (2 * R + a / 2 ^ m % 2) % 18446744073709551616 := by
      have hs0 : 0 ≤ al / 2 ^ m := Int.ediv_nonneg hal.1 (Int.le_of_lt hp)
      have hs1 : al / 2 ^ m ≤ al := Int.ediv_le_self _ hal.1
      rw [pow_min (by omega), fdiv_pos (by omega), and_bit (by omega), ebit, show IntKind.wrap .u64 (R % 18446744073709551616 * 2) = R % 9223372036854775808 * 2 from by rw [wu]; omega, or_parts (s := 1) (by rfl) (by omega) (by omega) (by omega)]
      omega
    have eR : a / 2 ^ m = 2 * Q * (bh * 18446744073709551616 + bl) + (2 * R + a / 2 ^ m % 2) := by
      rw [Int.mul_assoc]; omega
    have hR' : 0 ≤ 2 * R + a / 2 ^ m % 2 ∧ 2 * R + a / 2 ^ m % 2 < 2 * (bh * 18446744073709551616 + bl) := by omega
    have hround : R96_0 (al, bh, bl, Q * 2 ^ (m + 1), R / 18446744073709551616, R % 18446744073709551616, (m : Int), ()) =
        if bh * 18446744073709551616 + bl ≤ 2 * R + a / 2 ^ m % 2 then some (.inl (al, bh, bl, (2 * Q + 1) * 2 ^ m, (2 * R + a / 2 ^ m % 2 - (bh * 18446744073709551616 + bl)) / 18446744073709551616, (2 * R + a / 2 ^ m % 2 - (bh * 18446744073709551616 + bl)) % 18446744073709551616, (m : Int) - 1, ()))
        else some (.inl (al, bh, bl, 2 * Q * 2 ^ m, (2 * R + a / 2 ^ m % 2) / 18446744073709551616, (2 * R + a / 2 ^ m % 2) % 18446744073709551616, (m : Int) - 1, ())) := by
      unfold R96_0 Q96_0
      simp only []
      rw [bif_t (decide_eq_true (by omega))]
      rw [bif_t (decide_eq_true (show (0 : Int) ≤ (m : Int) by omega))]
      simp only [Option.bind_some]
      rw [o1, o2, wsi (n := (m : Int) - 1) (by omega)]
      generalize hRe : 2 * R + a / 2 ^ m % 2 = R' at *
      have hno : Q * 2 ^ (m + 1) = 2 * Q * 2 ^ m := by rw [hp2, Int.mul_comm 2 Q, Int.mul_assoc]
      have sub : bh * 18446744073709551616 + bl ≤ R' → (Option.bind (α := Int × Int × Unit) ((cSub64 (τ := τ)).f (R' % 18446744073709551616, bl, 0, ())) fun ⟨y3_0, ⟨y3_1, ()⟩⟩ => (Option.bind (α := Int × Int × Unit) ((cSub64 (τ := τ)).f (R' / 18446744073709551616, bh, y3_1, ())) fun ⟨y4_0, ⟨y4_1, ()⟩⟩ => (some () : Option Unit).bind fun () => (some (.inl (al, bh, bl, IntKind.wrap .u64 ↑(BitVec.toNat (BitVec.ofInt 64 (Q * 2 ^ (m + 1)) ||| BitVec.ofInt 64 (IntKind.wrap .u64 (1 * 2 ^ min (Int.toNat (m : Int)) 64)))), y4_0, y3_0, (m : Int) - 1, ())) : Option (LA96_0 ⊕ LB96_0))))
          = some (.inl (al, bh, bl, (2 * Q + 1) * 2 ^ m, (R' - (bh * 18446744073709551616 + bl)) / 18446744073709551616, (R' - (bh * 18446744073709551616 + bl)) % 18446744073709551616, (m : Int) - 1, ())) := by
        intro hle
        have hQm : (2 * Q + 1) * 2 ^ m ≤ 18446744073709551615 := by
          have h1 : (2 * Q + 1) * (bh * 18446744073709551616 + bl) ≤ a / 2 ^ m := by rw [Int.add_mul, Int.one_mul]; omega
          have h2 := Int.mul_le_mul_of_nonneg_right h1 (Int.le_of_lt hp)
          have h3 : a / 2 ^ m * 2 ^ m ≤ a := Int.ediv_mul_le a (by omega)
          rw [Int.mul_right_comm] at h2
          rcases Int.lt_or_le 18446744073709551615 ((2 * Q + 1) * 2 ^ m) with h4 | h4
          · exfalso
            have h5 := Int.mul_le_mul_of_nonneg_right (show 18446744073709551616 ≤ (2 * Q + 1) * 2 ^ m by omega) (show 0 ≤ bh * 18446744073709551616 + bl by omega)
            rw [Int.mul_comm 18446744073709551616] at h5
            omega
          · exact h4
        have hQm2 : (2 * Q + 1) * 2 ^ m = Q * 2 ^ (m + 1) + 2 ^ m := by rw [hp2, Int.add_mul, Int.one_mul, Int.mul_comm 2 Q, Int.mul_assoc]
        have hQ0 : 0 ≤ Q * 2 ^ (m + 1) := Int.mul_nonneg hQ (by omega)
        rw [sub64_f (by omega) hbl (by omega)]
        simp only [Option.bind_some]
        rw [sub64_f (by omega) (by omega) (by omega)]
        simp only [Option.bind_some]
        rw [pow_min (by omega), Int.one_mul, wui (n := 2 ^ m) (by omega), or_parts (s := m + 1) rfl hQ (by omega) (by omega), hQm2]
        have p1 : (R' % 18446744073709551616 - bl - 0) % 18446744073709551616 = (R' - (bh * 18446744073709551616 + bl)) % 18446744073709551616 := by omega
        have p2 : (R' / 18446744073709551616 - bh - -((R' % 18446744073709551616 - bl - 0) / 18446744073709551616)) % 18446744073709551616 = (R' - (bh * 18446744073709551616 + bl)) / 18446744073709551616 := by omega
        rw [p2, p1]
      by_cases g1 : R' / 18446744073709551616 > bh
      · rw [bif_t (decide_eq_true g1), if_pos (by omega)]
        exact sub (by omega)
      · rw [bif_f (decide_eq_false g1)]
        by_cases g2 : R' / 18446744073709551616 = bh
        · rw [bif_t (show (R' / 18446744073709551616 == bh) = true from by simpa using g2)]
          by_cases g3 : R' % 18446744073709551616 ≥ bl
          · rw [bif_t (decide_eq_true g3), if_pos (by omega)]
            exact sub (by omega)
          · rw [bif_f (decide_eq_false g3), if_neg (by omega), hno]
        · rw [bif_f (show (R' / 18446744073709551616 == bh) = false from by simpa using g2), if_neg (by omega), hno]
    rw [itr_succ, show (((m + 1 : Nat) : Int) - 1) = (m : Int) from by omega, hround]
    by_cases hle : bh * 18446744073709551616 + bl ≤ 2 * R + a / 2 ^ m % 2
    · rw [if_pos hle]
      exact ih (2 * Q + 1) (2 * R + a / 2 ^ m % 2 - (bh * 18446744073709551616 + bl)) (by omega) (by rw [Int.add_mul, Int.one_mul]; omega) (by omega) (by omega)
    · rw [if_neg hle]
      exact ih (2 * Q) (2 * R + a / 2 ^ m % 2) (by omega) eR (by omega) (by omega)
theorem wquoRem {ah al bh bl : Int} (h1 : 0 ≤ ah ∧ ah ≤ 18446744073709551615) (h2 : 0 ≤ al ∧ al ≤ 18446744073709551615) (h3 : 0 ≤ bh ∧ bh ≤ 18446744073709551615) (h4 : 0 ≤ bl ∧ bl ≤ 18446744073709551615)
    (hB : 1 ≤ bh * 18446744073709551616 + bl ∧ bh * 18446744073709551616 + bl ≤ 170141183460469231731687303715884105728) :
    N96 (ah, al, bh, bl, ()) = some ((ah * 18446744073709551616 + al) / (bh * 18446744073709551616 + bl) / 18446744073709551616, (ah * 18446744073709551616 + al) / (bh * 18446744073709551616 + bl) % 18446744073709551616,
      (ah * 18446744073709551616 + al) % (bh * 18446744073709551616 + bl) / 18446744073709551616, (ah * 18446744073709551616 + al) % (bh * 18446744073709551616 + bl) % 18446744073709551616, ()) := by
  unfold N96 M96
  simp only []
  by_cases h0 : bh = 0
  · rw [bif_t (show (bh == 0) = true from by simpa using h0), bif_t (show (!bl == 0) = true from by simp; omega)]
    simp only [Option.bind_some]
    rw [tmod_pos h1.1, tdiv_pos h1.1]
    have r0 := Int.emod_nonneg ah (show bl ≠ 0 by omega)
    have r1 := Int.emod_lt_of_pos ah (show 0 < bl by omega)
    have q0 : 0 ≤ ah / bl := Int.ediv_nonneg h1.1 (by omega)
    have q1 : ah / bl ≤ ah := Int.ediv_le_self _ h1.1
    have e := Int.mul_ediv_add_emod ah bl
    rw [Int.mul_comm] at e
    rw [wDiv64 ⟨r0, r1⟩ h4.2 h2]
    simp only [Option.bind_some]
    rw [wui (n := ah / bl) (by omega)]
    generalize ah % bl = r at *
    generalize ah / bl = q at *
    have f := Int.mul_ediv_add_emod (r * 18446744073709551616 + al) bl
    have f0 := Int.emod_nonneg (r * 18446744073709551616 + al) (show bl ≠ 0 by omega)
    have f1 := Int.emod_lt_of_pos (r * 18446744073709551616 + al) (show 0 < bl by omega)
    have g0 : 0 ≤ (r * 18446744073709551616 + al) / bl := Int.ediv_nonneg (by omega) (by omega)
    have g1 : (r * 18446744073709551616 + al) / bl < 18446744073709551616 := Int.ediv_lt_of_lt_mul (by omega) (by omega)
    rw [Int.mul_comm] at f
    generalize (r * 18446744073709551616 + al) / bl = t at *
    generalize (r * 18446744073709551616 + al) % bl = u at *
    have e0 : ah * 18446744073709551616 + al = (q * 18446744073709551616 + t) * (bh * 18446744073709551616 + bl) + u := by
      rw [h0, Int.zero_mul, Int.zero_add, Int.add_mul, Int.mul_right_comm]
      omega
    obtain ⟨d1, d2⟩ := div_mod_of (by omega) e0 ⟨f0, by omega⟩
    rw [d1, d2]
    congr 2
    · omega
    · congr 1
      · omega
      · congr 1
        · omega
        · congr 1; omega
  · rw [bif_f (show (bh == 0) = false from by simpa using h0)]
    have h := qr_l0 (ah * 18446744073709551616 + al) al bh bl h3.1 h4 hB.2 (by omega) h2 (by omega) (by omega) (by omega) 64 0 ah (by omega) (by rw [show (2 : Int) ^ 64 = 18446744073709551616 from by decide]; omega) (by omega) (by omega)
    rw [Int.zero_mul, show ah / 18446744073709551616 = 0 from by omega, show ah % 18446744073709551616 = ah from by omega] at h
    rw [show ((64 : Nat) : Int) - 1 = 63 from by decide] at h
    rw [itrs_of h (by omega)]
    simp only [Option.bind_some]
    have q1 : (ah * 18446744073709551616 + al) / (bh * 18446744073709551616 + bl) < 18446744073709551616 := Int.ediv_lt_of_lt_mul (by omega) (by omega)
    have q0 : 0 ≤ (ah * 18446744073709551616 + al) / (bh * 18446744073709551616 + bl) := Int.ediv_nonneg (by omega) (by omega)
    congr 2
    · omega
    · congr 1
      omega
end Go.Proofs.YtaalnjfmcjdimaaGreat.E
/-
  Quotients and rests of numbers of two words, told as numbers. No condition beyond the words' own bounds.
-/
namespace Go.Proofs.YtaalnjfmcjdimaaGreat.E
open Go
set_option linter.unusedVariables false
set_option maxRecDepth 100000
def qv (A B : Int) : Int := if (!(decide (A < 0) == decide (B < 0))) = true then -(wabs A / wabs B) else wabs A / wabs B
def rv (A B : Int) : Int := if decide (A < 0) = true then -(wabs A % wabs B) else wabs A % wabs B
def qrans (A B : Int) : (Int × Int) × (Int × Int) × Int × Unit :=
  if B = 0 then ((0, 0), (0, 0), 20, ()) else if inR (qv A B) then ((qv A B / 18446744073709551616, qv A B % 18446744073709551616), (rv A B / 18446744073709551616, rv A B % 18446744073709551616), 0, ()) else ((0, 0), (0, 0), 10, ())
theorem rv_in {A B : Int} (hA : wabs A ≤ 170141183460469231731687303715884105728) (hB : wabs B ≤ 170141183460469231731687303715884105728) (h0 : B ≠ 0) : inR (rv A B) := by
  have b0 : 0 < wabs B := by unfold wabs; split <;> omega
  have r0 := Int.emod_nonneg (wabs A) (show wabs B ≠ 0 by omega)
  have r1 := Int.emod_lt_of_pos (wabs A) b0
  unfold inR rv
  split <;> omega
theorem wv_zero {h l : Int} (b : WB h l) : wv h l = 0 ↔ h = 0 ∧ l = 0 := by unfold WB at b; unfold wv; omega
theorem neg_iff {h l : Int} (b : WB h l) : decide (h < 0) = decide (wv h l < 0) := by
  rw [decide_eq_decide]
  unfold WB at b
  unfold wv
  omega
theorem wQuoRem {a0 a1 b0 b1 : Int} (ha : WB a0 a1) (hb : WB b0 b1) : N59 ((a0, a1), (b0, b1), ()) = some (qrans (wv a0 a1) (wv b0 b1)) := by
  unfold N59 M59
  simp only []
  by_cases h0 : wv b0 b1 = 0
  · obtain ⟨e1, e2⟩ := (wv_zero hb).1 h0
    rw [bif_t (by rw [e1, e2]; rfl)]
    unfold qrans
    rw [if_pos h0]
  · rw [bif_f (by rw [Bool.and_eq_false_iff]; have := (not_congr (wv_zero hb)).1 h0; simp; omega)]
    have hA := wabs_in ha
    have hB := wabs_in hb
    have b0' : 0 < wabs (wv b0 b1) := by unfold wabs; split <;> omega
    rw [wAbs ha]
    simp only [Option.bind_some]
    rw [wAbs hb]
    simp only [Option.bind_some]
    rw [wquoRem (by omega) (by omega) (by omega) (by omega) (by omega)]
    simp only [Option.bind_some]
    rw [show wabs (wv a0 a1) / 18446744073709551616 * 18446744073709551616 + wabs (wv a0 a1) % 18446744073709551616 = wabs (wv a0 a1) from by omega, show wabs (wv b0 b1) / 18446744073709551616 * 18446744073709551616 + wabs (wv b0 b1) % 18446744073709551616 = wabs (wv b0 b1) from by omega]
    have r0 := Int.emod_nonneg (wabs (wv a0 a1)) (show wabs (wv b0 b1) ≠ 0 by omega)
    have r1 := Int.emod_lt_of_pos (wabs (wv a0 a1)) b0'
    have q0 : 0 ≤ wabs (wv a0 a1) / wabs (wv b0 b1) := Int.ediv_nonneg hA.1 (by omega)
    have q1 : wabs (wv a0 a1) / wabs (wv b0 b1) ≤ wabs (wv a0 a1) := Int.ediv_le_self _ hA.1
    have hr := rv_in hA.2 hB.2 h0
    rw [wJoin _ (by omega) (by omega), wJoin _ (by omega) (by omega)]
    simp only [Option.bind_some]
    unfold qrans
    rw [if_neg h0]
    have hq : (if (!decide (a0 < 0) == decide (b0 < 0)) = true then -(wabs (wv a0 a1) / wabs (wv b0 b1) / 18446744073709551616 * 18446744073709551616 + wabs (wv a0 a1) / wabs (wv b0 b1) % 18446744073709551616) else wabs (wv a0 a1) / wabs (wv b0 b1) / 18446744073709551616 * 18446744073709551616 + wabs (wv a0 a1) / wabs (wv b0 b1) % 18446744073709551616) = qv (wv a0 a1) (wv b0 b1) := by
      rw [neg_iff ha, neg_iff hb, show wabs (wv a0 a1) / wabs (wv b0 b1) / 18446744073709551616 * 18446744073709551616 + wabs (wv a0 a1) / wabs (wv b0 b1) % 18446744073709551616 = wabs (wv a0 a1) / wabs (wv b0 b1) from by omega]
      rfl
    have hr2 : (if decide (a0 < 0) = true then -(wabs (wv a0 a1) % wabs (wv b0 b1) / 18446744073709551616 * 18446744073709551616 + wabs (wv a0 a1) % wabs (wv b0 b1) % 18446744073709551616) else wabs (wv a0 a1) % wabs (wv b0 b1) / 18446744073709551616 * 18446744073709551616 + wabs (wv a0 a1) % wabs (wv b0 b1) % 18446744073709551616) = rv (wv a0 a1) (wv b0 b1) := by
      rw [neg_iff ha, show wabs (wv a0 a1) % wabs (wv b0 b1) / 18446744073709551616 * 18446744073709551616 + wabs (wv a0 a1) % wabs (wv b0 b1) % 18446744073709551616 = wabs (wv a0 a1) % wabs (wv b0 b1) from by omega]
      rfl
    rw [hq, hr2]
    by_cases hi : inR (qv (wv a0 a1) (wv b0 b1))
    · rw [if_pos hi, wans_in hi, wans_in hr]
      rfl
    · rw [if_neg hi, wans_out hi]
      rfl
end Go.Proofs.YtaalnjfmcjdimaaGreat.E
/-
  Rounded quotients, told as numbers. No condition beyond the words' own bounds.
-/
namespace Go.Proofs.YtaalnjfmcjdimaaGreat.E
open Go
set_option linter.unusedVariables false
set_option maxRecDepth 100000
def far (A B mode : Int) : Bool :=
  bif mode == 0 then (!(decide (A < 0) == decide (B < 0))) else bif mode == 1 then (!(!(decide (A < 0) == decide (B < 0)))) else bif mode == 2 then false
  else bif decide (wabs A % wabs B = wabs B - wabs A % wabs B) then (bif mode == 3 then true else decide (qv A B % 18446744073709551616 % 2 = 1)) else decide (wabs A % wabs B ≥ wabs B - wabs A % wabs B)
def divans (A B mode : Int) : (Int × Int) × Int × Unit :=
  if mode < 0 then ((0, 0), 1, ()) else if mode > 4 then ((0, 0), 1, ()) else if B = 0 then ((0, 0), 20, ()) else if inR (qv A B) then
    (if rv A B = 0 then ((qv A B / 18446744073709551616, qv A B % 18446744073709551616), 0, ()) else bif far A B mode then wans (if (!(decide (A < 0) == decide (B < 0))) = true then qv A B - 1 else qv A B + 1) else ((qv A B / 18446744073709551616, qv A B % 18446744073709551616), 0, ()))
  else ((0, 0), 10, ())
theorem wabs_rv {A B : Int} (h0 : B ≠ 0) : wabs (rv A B) = wabs A % wabs B := by
  have b0 : 0 < wabs B := by unfold wabs; split <;> omega
  have r0 := Int.emod_nonneg (wabs A) (show wabs B ≠ 0 by omega)
  unfold rv
  generalize wabs A % wabs B = m at *
  unfold wabs
  split <;> split <;> omega
theorem sign_rv {A B : Int} (h0 : B ≠ 0) (hr : rv A B ≠ 0) : decide (rv A B < 0) = decide (A < 0) := by
  have b0 : 0 < wabs B := by unfold wabs; split <;> omega
  have r0 := Int.emod_nonneg (wabs A) (show wabs B ≠ 0 by omega)
  rw [decide_eq_decide]
  unfold rv at *
  split at hr <;> rename_i h <;> simp only [decide_eq_true_eq] at h
  · rw [if_pos (by simpa using h)]; omega
  · rw [if_neg (by simpa using h)]; omega
section
variable {A B b0 b1 mode : Int} (hb : WB b0 b1) (hB : wv b0 b1 = B) (hA : wabs A ≤ 170141183460469231731687303715884105728) (h0 : B ≠ 0) (hr : rv A B ≠ 0)
include hb hB hA h0 hr
theorem wAway : N60 ((qv A B / 18446744073709551616, qv A B % 18446744073709551616), (rv A B / 18446744073709551616, rv A B % 18446744073709551616), (b0, b1), mode, ()) = some (far A B mode, ()) := by
  have hB2 := wabs_in hb
  rw [hB] at hB2
  have hri := rv_in hA hB2.2 h0
  have wr := WB_in hri
  have hb0 : 0 < wabs B := by unfold wabs; split <;> omega
  have r0 := Int.emod_nonneg (wabs A) (show wabs B ≠ 0 by omega)
  have r1 := Int.emod_lt_of_pos (wabs A) hb0
  have e1 : decide (rv A B / 18446744073709551616 < 0) = decide (A < 0) := by rw [neg_iff wr, wv_of, sign_rv h0 hr]
  have e2 : decide (b0 < 0) = decide (B < 0) := by rw [neg_iff hb, hB]
  unfold N60 M60 far
  simp only []
  rw [e1, e2]
  cases m0 : mode == 0 with
  | true => rfl
  | false =>
  cases m1 : mode == 1 with
  | true => rfl
  | false =>
  cases m2 : mode == 2 with
  | true => rfl
  | false =>
  simp only [cond_false]
  rw [wAbs wr, wv_of, wabs_rv h0]
  simp only [Option.bind_some]
  rw [wAbs hb, hB]
  simp only [Option.bind_some]
  generalize wabs A % wabs B = r at *
  generalize wabs B = b at *
  rw [sub64_f (by omega) (by omega) (by omega)]
  simp only [Option.bind_some]
  rw [sub64_f (by omega) (by omega) (by omega)]
  simp only [Option.bind_some]
  have hq : 0 ≤ qv A B % 18446744073709551616 ∧ qv A B % 18446744073709551616 ≤ 18446744073709551615 := by omega
  rw [and_bit hq]
  have t0 : (b % 18446744073709551616 - r % 18446744073709551616 - 0) % 18446744073709551616 = (b - r) % 18446744073709551616 := by omega
  have t1 : (b / 18446744073709551616 - r / 18446744073709551616 - -((b % 18446744073709551616 - r % 18446744073709551616 - 0) / 18446744073709551616)) % 18446744073709551616 = (b - r) / 18446744073709551616 := by omega
  rw [t0, t1]
  have hqd : (qv A B % 18446744073709551616 % 2 == 1) = decide (qv A B % 18446744073709551616 % 2 = 1) := rfl
  rw [hqd]
  generalize decide (qv A B % 18446744073709551616 % 2 = 1) = od
  simp only [bif_p, bif_eq]
  have hw : (if mode = 3 then (some (true, ()) : Option B60) else some (od, ())) = some (if mode = 3 then true else od, ()) := by split <;> rfl
  simp only [hw]
  by_cases k1 : r / 18446744073709551616 > (b - r) / 18446744073709551616
  · rw [if_pos k1, if_neg (by omega), decide_eq_true (by omega)]
  · rw [if_neg k1]
    by_cases k2 : r / 18446744073709551616 = (b - r) / 18446744073709551616
    · rw [if_pos k2]
      by_cases k3 : r % 18446744073709551616 > (b - r) % 18446744073709551616
      · rw [if_pos k3, if_neg (by omega), decide_eq_true (by omega)]
      · rw [if_neg k3, if_pos k2]
        by_cases k4 : r % 18446744073709551616 = (b - r) % 18446744073709551616
        · rw [if_pos k4, if_pos (show r = b - r by omega)]
        · rw [if_neg k4, if_neg (by omega), decide_eq_false (by omega)]
    · rw [if_neg k2, if_neg k2, if_neg (by omega), decide_eq_false (by omega)]
end
theorem wDiv {a0 a1 b0 b1 mode : Int} (ha : WB a0 a1) (hb : WB b0 b1) : N23 ((a0, a1), (b0, b1), mode, ()) = some (divans (wv a0 a1) (wv b0 b1) mode) := by
  unfold N23 M23 divans
  simp only []
  by_cases m0 : mode < 0
  · rw [bif_t (decide_eq_true m0), if_pos m0]
  rw [bif_f (decide_eq_false m0), if_neg m0]
  by_cases m4 : mode > 4
  · rw [bif_t (decide_eq_true m4), if_pos m4]
  rw [bif_f (decide_eq_false m4), if_neg m4, wQuoRem ha hb]
  simp only [Option.bind_some]
  unfold qrans
  by_cases h0 : wv b0 b1 = 0
  · rw [if_pos h0, if_pos h0]
    rfl
  rw [if_neg h0, if_neg h0]
  by_cases hq : inR (qv (wv a0 a1) (wv b0 b1))
  · rw [if_pos hq, if_pos hq]
    simp only [bne_self_eq_false, cond_false]
    have hri := rv_in (wabs_in ha).2 (wabs_in hb).2 h0
    by_cases hr : rv (wv a0 a1) (wv b0 b1) = 0
    · rw [if_pos hr, hr]
      rfl
    · rw [if_neg hr, bif_f (by rw [Bool.and_eq_false_iff]; simp; omega), wAway hb rfl (wabs_in ha).2 h0 hr]
      simp only [Option.bind_some, bif_not]
      cases hf : far (wv a0 a1) (wv b0 b1) mode with
      | false => rfl
      | true =>
        simp only [cond_true]
        rw [neg_iff ha, neg_iff hb, wOf (by omega), show (1 : Int) / 18446744073709551616 = 0 from rfl, show (1 : Int) % 18446744073709551616 = 1 from rfl]
        simp only [Option.bind_some]
        rw [wSub (WB_in hq) (show WB 0 1 from by unfold WB; omega), wAdd (WB_in hq) (show WB 0 1 from by unfold WB; omega), wv_of, show wv 0 1 = 1 from rfl]
        cases (decide (wv a0 a1 < 0) == decide (wv b0 b1 < 0)) <;> rfl
  · rw [if_neg hq, if_neg hq]
    rfl
end Go.Proofs.YtaalnjfmcjdimaaGreat.E
/-
  The machine's instructions that cut, compare, skip and take off. No condition but the words' own bounds and the pile's length.
-/
namespace Go.Proofs.YtaalnjfmcjdimaaGreat.E
open Go
set_option linter.unusedVariables false
set_option linter.unusedSimpArgs false
set_option maxRecDepth 100000
abbrev CW : Type := Wd × Bool
def ck (v : Int) (o : Bool) : CW := ((wans v).1, o || ov v)
def wp_ (w : Wd) : Int := wv w.1 w.2
def overV (x n : Wd) (o : Bool) : CW := (bif decide (cmpv (wp_ (ck (wp_ x - wp_ n) o).1) 0 < 0) then (0, 0) else (ck (wp_ x - wp_ n) o).1, (ck (wp_ x - wp_ n) o).2)
def uptoV (x n : Wd) : Wd := bif decide (cmpv (wp_ n) (wp_ x) < 0) then n else x
def holdsV (k op : Int) : Bool := if op = 1 then decide (k < 0) else if op = 2 then decide (k ≤ 0) else if op = 3 then decide (k > 0) else if op = 4 then decide (k ≥ 0) else if op = 5 then k == 0 else k != 0
def blkV (q s : Int) : Int := q / s + (if q % s = 0 then 0 else 1)
def ofV (a : Int) : Wd := (a / 18446744073709551616, a % 18446744073709551616)
def offV (x : Wd) (n : Int) (o : Bool) : CW := ((divans (wp_ (ck (wp_ x * (10000 - n)) o).1) 10000 0).1, (ck (wp_ x * (10000 - n)) o).2)
theorem wp_of (a : Int) : wp_ (ofV a) = a := wv_of a
section
variable (p : VPrg) (q : List Int) (u : Wd) (l : List Wd) (a s : Int) (o : Bool)
theorem vOver (x : Wd) (c : Int × Int × Int) (k : Nat) (hk : c.2.1 = (k : Int)) (hp : k < p.2.2.2.1.length) (hc : WB p.2.2.2.1[k].1 p.2.2.2.1[k].2) (h : l.length ≤ 999999) (hx : WB x.1 x.2) :
    N52 (mc p q u (l ++ [x]) a s o, c, ()) = some (mc p q u (l ++ [(overV x p.2.2.2.1[k] o).1]) a s (overV x p.2.2.2.1[k] o).2, ()) := by
  have e1 := vPop p q u l a s o x (by omega)
  have hg := at_get hp
  have e2 := wSub hx hc
  have b2 := wans_WB (wv x.1 x.2 - wv p.2.2.2.1[k].1 p.2.2.2.1[k].2)
  have e3 := vMade p q u l a s o (wans (wv x.1 x.2 - wv p.2.2.2.1[k].1 p.2.2.2.1[k].2)).1 (wans (wv x.1 x.2 - wv p.2.2.2.1[k].1 p.2.2.2.1[k].2)).2.1
  have e4 := wSign b2
  have e5 := vPush p q u l a s (o || (wans (wv x.1 x.2 - wv p.2.2.2.1[k].1 p.2.2.2.1[k].2)).2.1 != 0) (0, 0) (by omega)
  have e6 := vPush p q u l a s (o || (wans (wv x.1 x.2 - wv p.2.2.2.1[k].1 p.2.2.2.1[k].2)).2.1 != 0) (wans (wv x.1 x.2 - wv p.2.2.2.1[k].1 p.2.2.2.1[k].2)).1 (by omega)
  unfold N52 M52
  unfold overV ck ov wp_
  generalize p.2.2.2.1[k] = n at *
  obtain ⟨p0, p1, p2, p3, p4, p5⟩ := p
  obtain ⟨u0, u1⟩ := u
  obtain ⟨c0, c1, c2⟩ := c
  simp only at hk
  subst hk
  obtain ⟨x0, x1⟩ := x
  obtain ⟨n0, n1⟩ := n
  generalize wans (wv (x0, x1).1 (x0, x1).2 - wv (n0, n1).1 (n0, n1).2) = z at *
  obtain ⟨⟨z0, z1⟩, z2, ⟨⟩⟩ := z
  unfold mc at *
  simp only [] at *
  rw [e1]
  simp only [Option.bind_some]
  rw [hg]
  simp only [Option.bind_some]
  rw [e2]
  simp only [Option.bind_some]
  rw [e3]
  simp only [Option.bind_some]
  rw [e4]
  simp only [Option.bind_some]
  rw [e5, e6]
  cases decide (cmpv (wv z0 z1) 0 < 0) <;> rfl
theorem vUpto (x : Wd) (c : Int × Int × Int) (k : Nat) (hk : c.2.1 = (k : Int)) (hp : k < p.2.2.2.1.length) (hc : WB p.2.2.2.1[k].1 p.2.2.2.1[k].2) (h : l.length ≤ 999999) (hx : WB x.1 x.2) :
    N53 (mc p q u (l ++ [x]) a s o, c, ()) = some (mc p q u (l ++ [uptoV x p.2.2.2.1[k]]) a s o, ()) := by
  have e1 := vPop p q u l a s o x (by omega)
  have hg := at_get hp
  have e2 := wCmp hc hx
  have e5 := vPush p q u l a s o p.2.2.2.1[k] (by omega)
  have e6 := vPush p q u l a s o x (by omega)
  unfold N53 M53
  unfold uptoV wp_
  generalize p.2.2.2.1[k] = n at *
  obtain ⟨p0, p1, p2, p3, p4, p5⟩ := p
  obtain ⟨u0, u1⟩ := u
  obtain ⟨c0, c1, c2⟩ := c
  simp only at hk
  subst hk
  obtain ⟨x0, x1⟩ := x
  obtain ⟨n0, n1⟩ := n
  unfold mc at *
  simp only [] at *
  rw [e1]
  simp only [Option.bind_some]
  rw [hg]
  simp only [Option.bind_some]
  rw [e2]
  simp only [Option.bind_some]
  rw [e5, e6]
  cases decide (cmpv (wv n0 n1) (wv x0 x1) < 0) <;> rfl
theorem holds_list (k : Int) {op : Int} (h : 1 ≤ op ∧ op ≤ 6) : [false, decide (k < 0), decide (k ≤ 0), decide (k > 0), decide (k ≥ 0), k == 0, k != 0][Int.toNat op]? = some (holdsV k op) := by
  have : op = 1 ∨ op = 2 ∨ op = 3 ∨ op = 4 ∨ op = 5 ∨ op = 6 := by omega
  unfold holdsV
  rcases this with rfl | rfl | rfl | rfl | rfl | rfl <;> rfl
theorem vTest (x : Wd) (c : Int × Int × Int) (k : Nat) (ho : 16 ≤ c.1 ∧ c.1 ≤ 21) (hk : c.2.1 = (k : Int)) (hp : k < p.2.2.2.1.length) (hc : WB p.2.2.2.1[k].1 p.2.2.2.1[k].2) (h : l.length ≤ 999999) (hx : WB x.1 x.2) (ha : 0 ≤ a ∧ a ≤ 100000) (hs : 0 ≤ c.2.2 ∧ c.2.2 ≤ 65535) :
    N58 (mc p q u (l ++ [x]) a s o, c, ()) = some (mc p q u l (bif holdsV (cmpv (wp_ x) (wp_ p.2.2.2.1[k])) (c.1 - 15) then a else a + c.2.2) s o, ()) := by
  have e1 := vPop p q u l a s o x (by omega)
  have hg := at_get hp
  have e2 := wCmp hx hc
  unfold N58 M58
  unfold wp_
  generalize p.2.2.2.1[k] = n at *
  obtain ⟨p0, p1, p2, p3, p4, p5⟩ := p
  obtain ⟨u0, u1⟩ := u
  obtain ⟨c0, c1, c2⟩ := c
  simp only at hk ho hs
  subst hk
  obtain ⟨x0, x1⟩ := x
  obtain ⟨n0, n1⟩ := n
  unfold mc at *
  simp only [] at *
  rw [e1]
  simp only [Option.bind_some]
  rw [hg]
  simp only [Option.bind_some]
  rw [e2]
  simp only [Option.bind_some]
  rw [wsi (n := c0 - 15) (by omega), decide_eq_true (show (0 : Int) ≤ c0 - 15 by omega), decide_eq_true (show c0 - 15 < 7 by omega), holds_list _ (show 1 ≤ c0 - 15 ∧ c0 - 15 ≤ 6 by omega), wsi (n := a + c2) (by omega)]
  cases holdsV (cmpv (wv x0 x1) (wv n0 n1)) (c0 - 15) <;> rfl
theorem vBlock (c : Int × Int × Int) (k : Nat) (hk : c.2.1 = (k : Int)) (hp : k < q.length) (hs : k < p.2.2.1.length) (hq : 0 ≤ q[k] ∧ q[k] ≤ 1099511627776) (hz : 1 ≤ p.2.2.1[k] ∧ p.2.2.1[k] ≤ 1000000000000) (h : l.length ≤ 999999) :
    N45 (mc p q u l a s o, c, ()) = some (mc p q u (l ++ [ofV (blkV q[k] p.2.2.1[k])]) a s o, ()) := by
  have hg := at_get hp
  have hg2 := at_get hs
  have hb : 0 ≤ blkV q[k] p.2.2.1[k] ∧ blkV q[k] p.2.2.1[k] ≤ 1099511627777 := by
    unfold blkV
    have h1 : 0 ≤ q[k] / p.2.2.1[k] := Int.ediv_nonneg hq.1 (by omega)
    have h2 : q[k] / p.2.2.1[k] ≤ q[k] := Int.ediv_le_self _ hq.1
    split <;> omega
  have hm : 0 ≤ q[k] % p.2.2.1[k] := Int.emod_nonneg _ (by omega)
  have hm2 : q[k] % p.2.2.1[k] < p.2.2.1[k] := Int.emod_lt_of_pos _ (by omega)
  have hd1 : 0 ≤ q[k] / p.2.2.1[k] := Int.ediv_nonneg hq.1 (by omega)
  have hd2 : q[k] / p.2.2.1[k] ≤ q[k] := Int.ediv_le_self _ hq.1
  have e2 := wOf (a := blkV q[k] p.2.2.1[k]) (by omega)
  have e5 := vPush p q u l a s o (ofV (blkV q[k] p.2.2.1[k])) (by omega)
  unfold N45 M45
  have hv : ∀ X Y : Int, 0 ≤ X → X ≤ 1099511627776 → 1 ≤ Y → 0 ≤ X % Y → X % Y < Y → 0 ≤ X / Y → X / Y ≤ X → Y ≤ 1000000000000 →
      IntKind.wrap .i64 (IntKind.wrap .i64 (X.tdiv Y) + (if 1 < X.tmod Y then 1 else X.tmod Y)) = blkV X Y := by
    intro X Y h1 h2 h3 h4 h5 h6 h7 h8
    rw [tdiv_pos h1, tmod_pos h1, wsi (n := X / Y) (by omega)]
    unfold blkV
    split <;> split <;> rw [wsi (by omega)] <;> omega
  have hv := hv _ _ hq.1 hq.2 hz.1 hm hm2 hd1 hd2 hz.2
  have hz0 : (!(p.2.2.1[k] == 0)) = true := by simp; omega
  generalize p.2.2.1[k] = Y at *
  generalize q[k] = X at *
  obtain ⟨p0, p1, p2, p3, p4, p5⟩ := p
  obtain ⟨u0, u1⟩ := u
  obtain ⟨c0, c1, c2⟩ := c
  simp only at hk
  subst hk
  unfold mc ofV at *
  simp only [] at *
  rw [hg]
  simp only [Option.bind_some]
  rw [hg2]
  simp only [Option.bind_some]
  rw [hz0]
  simp only [cond_true, Option.bind_some]
  rw [hv, e2]
  simp only [Option.bind_some]
  rw [e5]
  rfl
theorem div_fit {A : Int} (h : inR A) : (divans A 10000 0).2.1 = 0 := by
  have hw : wabs A ≤ 170141183460469231731687303715884105728 := by unfold inR at h; unfold wabs; split <;> omega
  have h0 := wabs_nonneg A
  have hb : wabs 10000 = 10000 := by decide
  have hq : inR (qv A 10000) := by
    unfold inR qv
    rw [hb]
    split <;> omega
  unfold divans
  rw [if_neg (by decide), if_neg (by decide), if_neg (by decide), if_pos hq]
  split
  · rfl
  · cases far A 10000 0 with
    | false => rfl
    | true =>
      rw [cond_true, wans_in]
      have : -100000000000000000000000000000000000 ≤ qv A 10000 ∧ qv A 10000 ≤ 100000000000000000000000000000000000 := by
        unfold qv
        rw [hb]
        split <;> omega
      split <;> omega
theorem vOff (x : Wd) (c : Int × Int × Int) (hc : 0 ≤ c.2.1 ∧ c.2.1 ≤ 10000) (h : l.length ≤ 999999) (hx : WB x.1 x.2) :
    N56 (mc p q u (l ++ [x]) a s o, c, ()) = some (mc p q u (l ++ [(offV x c.2.1 o).1]) a s (offV x c.2.1 o).2, ()) := by
  have e1 := vPop p q u l a s o x (by omega)
  have e2 := wOf (a := 10000 - c.2.1) (by omega)
  have b2 := WB_of (a := 10000 - c.2.1) (by omega)
  have e3 := wMul hx b2
  rw [wv_of] at e3
  have b3 := wans_WB (wv x.1 x.2 * (10000 - c.2.1))
  have e4 := vMade p q u l a s o (wans (wv x.1 x.2 * (10000 - c.2.1))).1 (wans (wv x.1 x.2 * (10000 - c.2.1))).2.1
  have e5 := wOf (a := 10000) (by omega)
  have b5 := WB_of (a := 10000) (by omega)
  have e6 := wDiv (mode := 0) b3 b5
  rw [wv_of] at e6
  have d6 := div_fit (wv_in b3)
  have e7 := vMade p q u l a s (o || (wans (wv x.1 x.2 * (10000 - c.2.1))).2.1 != 0) (divans (wv (wans (wv x.1 x.2 * (10000 - c.2.1))).1.1 (wans (wv x.1 x.2 * (10000 - c.2.1))).1.2) 10000 0).1 (divans (wv (wans (wv x.1 x.2 * (10000 - c.2.1))).1.1 (wans (wv x.1 x.2 * (10000 - c.2.1))).1.2) 10000 0).2.1
  have e8 := vPush p q u l a s (o || (wans (wv x.1 x.2 * (10000 - c.2.1))).2.1 != 0) (divans (wv (wans (wv x.1 x.2 * (10000 - c.2.1))).1.1 (wans (wv x.1 x.2 * (10000 - c.2.1))).1.2) 10000 0).1 (by omega)
  rw [d6, show ((0 : Int) != 0) = false from rfl, Bool.or_false] at e7
  unfold N56 M56
  unfold offV ck ov wp_
  generalize hd : divans (wv (wans (wv x.1 x.2 * (10000 - c.2.1))).1.1 (wans (wv x.1 x.2 * (10000 - c.2.1))).1.2) 10000 0 = D at *
  generalize hz : wans (wv x.1 x.2 * (10000 - c.2.1)) = z at *
  obtain ⟨p0, p1, p2, p3, p4, p5⟩ := p
  obtain ⟨u0, u1⟩ := u
  obtain ⟨c0, c1, c2⟩ := c
  obtain ⟨x0, x1⟩ := x
  obtain ⟨⟨z0, z1⟩, z2, ⟨⟩⟩ := z
  obtain ⟨⟨D0, D1⟩, D2, ⟨⟩⟩ := D
  unfold mc at *
  simp only [] at *
  subst d6
  rw [e1]
  simp only [Option.bind_some]
  rw [wsi (n := 10000 - c1) (by omega), e2]
  simp only [Option.bind_some]
  rw [e3]
  simp only [Option.bind_some]
  rw [e4]
  simp only [Option.bind_some]
  rw [e5]
  simp only [Option.bind_some]
  rw [e6]
  simp only [Option.bind_some]
  rw [e7]
  simp only [Option.bind_some]
  rw [e8]
  rfl
end
end Go.Proofs.YtaalnjfmcjdimaaGreat.E
/-
  The machine's instructions that price by tiers. No condition but the words' own bounds and the lists' lengths.
-/
namespace Go.Proofs.YtaalnjfmcjdimaaGreat.E
open Go
set_option linter.unusedVariables false
set_option linter.unusedSimpArgs false
set_option maxRecDepth 100000
abbrev Tr : Type := Int × Int
def from_ (l : List Tr) (i : Nat) : Int := (l.getD i (0, 0)).1
def rate_ (l : List Tr) (i : Nat) : Int := (l.getD i (0, 0)).2
def tierV (l : List Tr) (x : Int) : Nat → Int
  | 0 => -1
  | k + 1 => if from_ l k < x then (k : Int) else tierV l x k
def gsum (l : List Tr) (o : Bool) : Nat → CW
  | 0 => ((0, 0), o)
  | i + 1 => ck (wp_ (gsum l o i).1 + wp_ (ck (rate_ l i * IntKind.wrap .i64 (from_ l (i + 1) - from_ l i)) (gsum l o i).2).1) (ck (rate_ l i * IntKind.wrap .i64 (from_ l (i + 1) - from_ l i)) (gsum l o i).2).2
def gradK (l : List Tr) (x u : Wd) (o : Bool) (k : Nat) : CW :=
  let g := gsum l o k
  let d := ck (wp_ x - from_ l k) g.2
  let r := ck (rate_ l k * wp_ d.1) d.2
  let t := ck (wp_ r.1 + wp_ g.1) r.2
  ck (wp_ t.1 * wp_ u) t.2
def volK (l : List Tr) (x u : Wd) (o : Bool) (k : Nat) : CW := ck (wp_ (ck (wp_ x * rate_ l k) o).1 * wp_ u) (ck (wp_ x * rate_ l k) o).2
def gradV (l : List Tr) (x u : Wd) (o : Bool) : CW := if tierV l (wp_ x) l.length < 0 then ((0, 0), o) else gradK l x u o (tierV l (wp_ x) l.length).toNat
def volV (l : List Tr) (x u : Wd) (o : Bool) : CW := if tierV l (wp_ x) l.length < 0 then ((0, 0), o) else volK l x u o (tierV l (wp_ x) l.length).toNat
structure Tiers (l : List Tr) : Prop where
  n : l.length ≤ 1000000
  b : ∀ t ∈ l, (-9223372036854775808 ≤ t.1 ∧ t.1 ≤ 9223372036854775807) ∧ (-9223372036854775808 ≤ t.2 ∧ t.2 ≤ 9223372036854775807)
theorem Tiers.at {l : List Tr} (h : Tiers l) {k : Nat} (hk : k < l.length) : l[k] = (from_ l k, rate_ l k) ∧ (-9223372036854775808 ≤ from_ l k ∧ from_ l k ≤ 9223372036854775807) ∧ (-9223372036854775808 ≤ rate_ l k ∧ rate_ l k ≤ 9223372036854775807) := by
  have e : l.getD k (0, 0) = l[k] := by rw [List.getD_eq_getElem?_getD, List.getElem?_eq_getElem hk]; rfl
  have := h.b l[k] (List.getElem_mem hk)
  unfold from_ rate_
  rw [e]
  exact ⟨rfl, this⟩
theorem tierV_lt (l : List Tr) (x : Int) : ∀ k, -1 ≤ tierV l x k ∧ tierV l x k < (k : Int)
  | 0 => by simp [tierV]
  | k + 1 => by
    have := tierV_lt l x k
    unfold tierV
    split <;> omega
theorem vTier_loop {l : List Tr} (hl : Tiers l) {x0 x1 : Int} (hx : WB x0 x1) : ∀ (k : Nat), k ≤ l.length → itr R95_0 (k + 1) (l, (x0, x1, ()), (k : Int) - 1, ()) = some (tierV l (wv x0 x1) k, ())
  | 0, h => by
    refine itr_out ?_
    unfold R95_0 Q95_0
    rfl
  | k + 1, h => by
    have ih := vTier_loop hl hx k (by omega)
    obtain ⟨e1, e2, e3⟩ := hl.at (show k < l.length by omega)
    have hg := at_get (show k < l.length by omega)
    have h2 := wOf e2
    have h3 := wCmp (WB_of e2) hx
    rw [wv_of] at h3
    have hc := cmpv_cases (from_ l k) (wv x0 x1)
    have hro : R95_0 (l, (x0, x1, ()), (((k + 1 : Nat) : Int)) - 1, ()) = if from_ l k < wv x0 x1 then some (.inr ((k : Int), ())) else some (.inl (l, (x0, x1, ()), (k : Int) - 1, ())) := by
      unfold R95_0 Q95_0
      simp only []
      rw [show (((k + 1 : Nat) : Int)) - 1 = (k : Int) by omega, hg, decide_eq_true (show (k : Int) ≥ 0 by omega), cond_true, e1]
      simp only [Option.bind_some]
      rw [h2]
      simp only [Option.bind_some]
      rw [h3]
      simp only [Option.bind_some]
      rw [bif_p, wsi (n := (k : Int) - 1) (by have := hl.n; omega)]
      split <;> split <;> first | rfl | (exfalso; omega)
    unfold tierV
    split
    · rename_i hlt
      rw [if_pos hlt] at hro
      exact itr_out hro
    · rename_i hlt
      rw [if_neg hlt] at hro
      rw [itr_in hro]
      exact ih
theorem vTier {l : List Tr} (hl : Tiers l) {x : Wd} (hx : WB x.1 x.2) : N95 (l, x, ()) = some (tierV l (wp_ x) l.length, ()) := by
  have h := itrs_eq (vTier_loop hl hx l.length (Nat.le_refl _)) rfl (by have := hl.n; omega)
  obtain ⟨x0, x1⟩ := x
  unfold N95 M95
  simp only []
  rw [wsi (n := (l.length : Int) - 1) (by have := hl.n; omega), h]
  rfl
section
variable (p : VPrg) (q : List Int) (u : Wd) (l : List Wd) (a s : Int) (o : Bool)
theorem vCk (v : Int) : N89 (mc p q u l a s o, (wans v).1, (wans v).2.1, ()) = some ((ck v o).1, mc p q u l a s (ck v o).2, ()) := vMade p q u l a s o _ _
theorem ck_WB (v : Int) (o : Bool) : WB (ck v o).1.1 (ck v o).1.2 := wans_WB v
theorem vVol (x : Wd) (c : Int × Int × Int) (k : Nat) (hk : c.2.1 = (k : Int)) (hp : k < p.2.2.2.2.1.length) (ht : Tiers p.2.2.2.2.1[k]) (h : l.length ≤ 999999) (hx : WB x.1 x.2) (hu : WB u.1 u.2) :
    N55 (mc p q u (l ++ [x]) a s o, c, ()) = some (mc p q u (l ++ [(volV p.2.2.2.2.1[k] x u o).1]) a s (volV p.2.2.2.2.1[k] x u o).2, ()) := by
  have hg := at_get hp
  have e1 := vPop p q u l a s o x (by omega)
  have e2 := vTier ht hx
  have e3 := vPush p q u l a s o (0, 0) (by omega)
  have ht2 := tierV_lt p.2.2.2.2.1[k] (wp_ x) p.2.2.2.2.1[k].length
  unfold N55 M55
  unfold volV
  generalize p.2.2.2.2.1[k] = L at *
  by_cases hneg : tierV L (wp_ x) L.length < 0
  · rw [if_pos hneg]
    generalize tierV L (wp_ x) L.length = K at *
    obtain ⟨p0, p1, p2, p3, p4, p5⟩ := p
    obtain ⟨u0, u1⟩ := u
    obtain ⟨c0, c1, c2⟩ := c
    obtain ⟨x0, x1⟩ := x
    simp only at hk
    subst hk
    unfold mc at *
    simp only [] at *
    rw [hg]
    simp only [Option.bind_some]
    rw [e1]
    simp only [Option.bind_some]
    rw [e2]
    simp only [Option.bind_some]
    rw [decide_eq_true hneg, cond_true, e3]
    rfl
  · rw [if_neg hneg]
    obtain ⟨K, hK⟩ : ∃ K : Nat, tierV L (wp_ x) L.length = (K : Int) := ⟨(tierV L (wp_ x) L.length).toNat, by omega⟩
    rw [hK] at e2 ht2 hneg ⊢
    have hKl : K < L.length := by omega
    obtain ⟨f1, f2, f3⟩ := ht.at hKl
    have hg2 := at_get hKl
    have e4 := wOf f3
    have e5 := wMul hx (WB_of f3)
    rw [wv_of] at e5
    have e6 := vCk p q u l a s o (wp_ x * rate_ L K)
    have b6 := ck_WB (wp_ x * rate_ L K) o
    have e7 := wMul b6 hu
    have e8 := vCk p q u l a s (ck (wp_ x * rate_ L K) o).2 (wp_ (ck (wp_ x * rate_ L K) o).1 * wp_ u)
    have e9 := vPush p q u l a s (volK L x u o K).2 (volK L x u o K).1 (by omega)
    rw [Int.toNat_natCast]
    have hv : volK L x u o K = ck (wp_ (ck (wp_ x * rate_ L K) o).1 * wp_ u) (ck (wp_ x * rate_ L K) o).2 := rfl
    rw [← hv] at e8
    generalize volK L x u o K = V at *
    have hc1 : (ck (wp_ x * rate_ L K) o).1 = (wans (wv x.1 x.2 * rate_ L K)).1 := rfl
    generalize hC : ck (wp_ x * rate_ L K) o = C at *
    change N42 (C.1, u, ()) = some (wans (wp_ C.1 * wp_ u)) at e7
    change N42 (x, _, ()) = some (wans (wp_ x * rate_ L K)) at e5
    generalize hz : wans (wp_ x * rate_ L K) = z at *
    generalize hy : wans (wp_ C.1 * wp_ u) = y at *
    generalize rate_ L K = rt at *
    obtain ⟨p0, p1, p2, p3, p4, p5⟩ := p
    obtain ⟨u0, u1⟩ := u
    obtain ⟨c0, c1, c2⟩ := c
    obtain ⟨x0, x1⟩ := x
    obtain ⟨⟨z0, z1⟩, z2, ⟨⟩⟩ := z
    obtain ⟨⟨y0, y1⟩, y2, ⟨⟩⟩ := y
    obtain ⟨⟨C0, C1⟩, C2⟩ := C
    obtain ⟨⟨V0, V1⟩, V2⟩ := V
    simp only at hk
    subst hk
    unfold mc at *
    simp only [] at *
    rw [hg]
    simp only [Option.bind_some]
    rw [e1]
    simp only [Option.bind_some]
    rw [e2]
    simp only [Option.bind_some]
    rw [decide_eq_false (by omega), cond_false, hg2, f1]
    simp only [Option.bind_some]
    rw [e4]
    simp only [Option.bind_some]
    rw [e5]
    simp only [Option.bind_some]
    rw [e6]
    simp only [Option.bind_some]
    rw [e7]
    simp only [Option.bind_some]
    rw [e8]
    simp only [Option.bind_some]
    rw [e9]
    rfl
theorem vGrad_loop {L : List Tr} (ht : Tiers L) {x : Int × Int × Unit} {K : Nat} (hK : K < L.length) {kk : Int} : ∀ (n i : Nat), i + n = K →
    itr R54_0 (n + 1) (mc p q u l a s (gsum L o i).2, L, x, kk, ((gsum L o i).1.1, (gsum L o i).1.2, ()), (K : Int), (i : Int), ()) = some (mc p q u l a s (gsum L o K).2, L, x, kk, ((gsum L o K).1.1, (gsum L o K).1.2, ()), ())
  | 0, i, h => by
    obtain rfl : i = K := by omega
    refine itr_out ?_
    obtain ⟨p0, p1, p2, p3, p4, p5⟩ := p
    obtain ⟨u0, u1⟩ := u
    obtain ⟨x0, x1, ⟨⟩⟩ := x
    unfold mc R54_0 Q54_0
    simp only []
    rw [bif_f (c := decide ((i : Int) < (i : Int))) (decide_eq_false (by omega))]
  | n + 1, i, h => by
    have ih := vGrad_loop ht (x := x) hK (kk := kk) n (i + 1) (by omega)
    rw [itr_in (x' := (mc p q u l a s (gsum L o (i + 1)).2, L, x, kk, ((gsum L o (i + 1)).1.1, (gsum L o (i + 1)).1.2, ()), (K : Int), ((i + 1 : Nat) : Int), ()))]
    · exact ih
    · have hn := ht.n
      obtain ⟨f1, f2, f3⟩ := ht.at (show i < L.length by omega)
      obtain ⟨g1, g2, g3⟩ := ht.at (show i + 1 < L.length by omega)
      have hg := at_get (show i < L.length by omega)
      have hg2 := at_get (show i + 1 < L.length by omega)
      have hw : -9223372036854775808 ≤ IntKind.wrap .i64 (from_ L (i + 1) - from_ L i) ∧ IntKind.wrap .i64 (from_ L (i + 1) - from_ L i) ≤ 9223372036854775807 := by rw [ws]; omega
      have e4 := wOf f3
      have e5 := wOf hw
      have e6 := wMul (WB_of f3) (WB_of hw)
      rw [wv_of, wv_of] at e6
      generalize hG : gsum L o i = G at *
      have e7 := vCk p q u l a s G.2 (rate_ L i * IntKind.wrap .i64 (from_ L (i + 1) - from_ L i))
      have b7 := ck_WB (rate_ L i * IntKind.wrap .i64 (from_ L (i + 1) - from_ L i)) G.2
      have hGb : WB G.1.1 G.1.2 := by
        rw [← hG]
        cases i with
        | zero => exact WB_zero
        | succ i => exact ck_WB _ _
      have hS : gsum L o (i + 1) = ck (wp_ G.1 + wp_ (ck (rate_ L i * IntKind.wrap .i64 (from_ L (i + 1) - from_ L i)) G.2).1) (ck (rate_ L i * IntKind.wrap .i64 (from_ L (i + 1) - from_ L i)) G.2).2 := by
        rw [gsum, hG]
      rw [hS]
      generalize rate_ L i * IntKind.wrap .i64 (from_ L (i + 1) - from_ L i) = v at *
      have e8 := wAdd hGb b7
      change N62 (G.1, (ck v G.2).1, ()) = some (wans (wp_ G.1 + wp_ (ck v G.2).1)) at e8
      have e9 := vCk p q u l a s (ck v G.2).2 (wp_ G.1 + wp_ (ck v G.2).1)
      generalize hz : wans v = z at *
      generalize hC : ck v G.2 = C at *
      generalize hy : wans (wp_ G.1 + wp_ C.1) = y at *
      generalize hD : ck (wp_ G.1 + wp_ C.1) C.2 = D at *
      rw [f1] at hg
      rw [g1] at hg2
      generalize rate_ L i = rt at *
      generalize from_ L i = fr at *
      generalize rate_ L (i + 1) = rt2 at *
      generalize from_ L (i + 1) = fr2 at *
      obtain ⟨p0, p1, p2, p3, p4, p5⟩ := p
      obtain ⟨u0, u1⟩ := u
      obtain ⟨x0, x1, ⟨⟩⟩ := x
      obtain ⟨⟨z0, z1⟩, z2, ⟨⟩⟩ := z
      obtain ⟨⟨y0, y1⟩, y2, ⟨⟩⟩ := y
      obtain ⟨⟨C0, C1⟩, C2⟩ := C
      obtain ⟨⟨D0, D1⟩, D2⟩ := D
      obtain ⟨⟨G0, G1⟩, G2⟩ := G
      unfold mc R54_0 Q54_0 at *
      simp only [] at *
      rw [bif_t (c := decide ((i : Int) < (K : Int))) (decide_eq_true (by omega)), wsi (n := (i : Int) + 1) (by omega), show (i : Int) + 1 = ((i + 1 : Nat) : Int) by omega, hg]
      simp only [Option.bind_some]
      rw [e4]
      simp only [Option.bind_some]
      rw [hg2]
      simp only [Option.bind_some]
      rw [e5]
      simp only [Option.bind_some]
      rw [e6]
      simp only [Option.bind_some]
      rw [e7]
      simp only [Option.bind_some]
      rw [e8]
      simp only [Option.bind_some]
      rw [e9]
      rfl
theorem vGrad (x : Wd) (c : Int × Int × Int) (k : Nat) (hk : c.2.1 = (k : Int)) (hp : k < p.2.2.2.2.1.length) (ht : Tiers p.2.2.2.2.1[k]) (h : l.length ≤ 999999) (hx : WB x.1 x.2) (hu : WB u.1 u.2) :
    N54 (mc p q u (l ++ [x]) a s o, c, ()) = some (mc p q u (l ++ [(gradV p.2.2.2.2.1[k] x u o).1]) a s (gradV p.2.2.2.2.1[k] x u o).2, ()) := by
  have hg := at_get hp
  have e1 := vPop p q u l a s o x (by omega)
  have e2 := vTier ht hx
  have e3 := vPush p q u l a s o (0, 0) (by omega)
  have ht2 := tierV_lt p.2.2.2.2.1[k] (wp_ x) p.2.2.2.2.1[k].length
  unfold N54 M54
  unfold gradV
  generalize p.2.2.2.2.1[k] = L at *
  by_cases hneg : tierV L (wp_ x) L.length < 0
  · rw [if_pos hneg]
    generalize tierV L (wp_ x) L.length = K at *
    obtain ⟨p0, p1, p2, p3, p4, p5⟩ := p
    obtain ⟨u0, u1⟩ := u
    obtain ⟨c0, c1, c2⟩ := c
    obtain ⟨x0, x1⟩ := x
    simp only at hk
    subst hk
    unfold mc at *
    simp only [] at *
    rw [hg]
    simp only [Option.bind_some]
    rw [e1]
    simp only [Option.bind_some]
    rw [e2]
    simp only [Option.bind_some]
    rw [decide_eq_true hneg, cond_true, e3]
    rfl
  · rw [if_neg hneg]
    obtain ⟨K, hK⟩ : ∃ K : Nat, tierV L (wp_ x) L.length = (K : Int) := ⟨(tierV L (wp_ x) L.length).toNat, by omega⟩
    rw [hK] at e2 ht2 hneg ⊢
    have hKl : K < L.length := by omega
    have hn := ht.n
    obtain ⟨f1, f2, f3⟩ := ht.at hKl
    have hg2 := at_get hKl
    have lp := itrs_eq (vGrad_loop p q u l a s o ht (x := (x.1, x.2, ())) hKl (kk := (K : Int)) K 0 (by omega)) rfl (by omega)
    have e4 := wOf f3
    have e5 := wOf f2
    rw [Int.toNat_natCast]
    have hGb : WB (gsum L o K).1.1 (gsum L o K).1.2 := by
      cases K with
      | zero => exact WB_zero
      | succ i => exact ck_WB _ _
    have hg0 : gsum L o 0 = ((0, 0), o) := rfl
    rw [hg0, show ((0 : Nat) : Int) = 0 from rfl] at lp
    unfold gradK
    generalize gsum L o K = G at *
    have e6 := wSub hx (WB_of f2)
    rw [wv_of] at e6
    change N61 (x, _, ()) = some (wans (wp_ x - from_ L K)) at e6
    have e7 := vCk p q u l a s G.2 (wp_ x - from_ L K)
    have b7 := ck_WB (wp_ x - from_ L K) G.2
    simp only []
    generalize hd : ck (wp_ x - from_ L K) G.2 = d at *
    generalize wans (wp_ x - from_ L K) = dz at *
    have e8 := wMul (WB_of f3) b7
    rw [wv_of] at e8
    change N42 (_, d.1, ()) = some (wans (rate_ L K * wp_ d.1)) at e8
    have e9 := vCk p q u l a s d.2 (rate_ L K * wp_ d.1)
    have b9 := ck_WB (rate_ L K * wp_ d.1) d.2
    generalize hr : ck (rate_ L K * wp_ d.1) d.2 = r at *
    generalize wans (rate_ L K * wp_ d.1) = rz at *
    have e10 := wAdd b9 hGb
    change N62 (r.1, G.1, ()) = some (wans (wp_ r.1 + wp_ G.1)) at e10
    have e11 := vCk p q u l a s r.2 (wp_ r.1 + wp_ G.1)
    have b11 := ck_WB (wp_ r.1 + wp_ G.1) r.2
    generalize ht : ck (wp_ r.1 + wp_ G.1) r.2 = t at *
    generalize wans (wp_ r.1 + wp_ G.1) = tz at *
    have e12 := wMul b11 hu
    change N42 (t.1, u, ()) = some (wans (wp_ t.1 * wp_ u)) at e12
    have e13 := vCk p q u l a s t.2 (wp_ t.1 * wp_ u)
    generalize hV : ck (wp_ t.1 * wp_ u) t.2 = V at *
    generalize wans (wp_ t.1 * wp_ u) = Vz at *
    have e14 := vPush p q u l a s V.2 V.1 (by omega)
    rw [f1] at hg2
    generalize rate_ L K = rt at *
    generalize from_ L K = fr at *
    obtain ⟨p0, p1, p2, p3, p4, p5⟩ := p
    obtain ⟨u0, u1⟩ := u
    obtain ⟨c0, c1, c2⟩ := c
    obtain ⟨x0, x1⟩ := x
    obtain ⟨⟨d0, d1⟩, d2⟩ := d
    obtain ⟨⟨dz0, dz1⟩, dz2, ⟨⟩⟩ := dz
    obtain ⟨⟨r0, r1⟩, r2⟩ := r
    obtain ⟨⟨rz0, rz1⟩, rz2, ⟨⟩⟩ := rz
    obtain ⟨⟨t0, t1⟩, t2⟩ := t
    obtain ⟨⟨tz0, tz1⟩, tz2, ⟨⟩⟩ := tz
    obtain ⟨⟨V0, V1⟩, V2⟩ := V
    obtain ⟨⟨Vz0, Vz1⟩, Vz2, ⟨⟩⟩ := Vz
    obtain ⟨⟨G0, G1⟩, G2⟩ := G
    simp only at hk
    subst hk
    unfold mc at *
    simp only [] at *
    rw [hg]
    simp only [Option.bind_some]
    rw [e1]
    simp only [Option.bind_some]
    rw [e2]
    simp only [Option.bind_some]
    rw [decide_eq_false (by omega), cond_false]
    rw [lp]
    simp only [Option.bind_some]
    rw [hg2]
    simp only [Option.bind_some]
    rw [e4]
    simp only [Option.bind_some]
    rw [e5]
    simp only [Option.bind_some]
    rw [e6]
    simp only [Option.bind_some]
    rw [e7]
    simp only [Option.bind_some]
    rw [e8]
    simp only [Option.bind_some]
    rw [e9]
    simp only [Option.bind_some]
    rw [e10]
    simp only [Option.bind_some]
    rw [e11]
    simp only [Option.bind_some]
    rw [e12]
    simp only [Option.bind_some]
    rw [e13]
    simp only [Option.bind_some]
    rw [e14]
    rfl
end
end Go.Proofs.YtaalnjfmcjdimaaGreat.E
/-
  What an instruction does to the machine. No condition but the words' own bounds and the pile's length.
-/
namespace Go.Proofs.YtaalnjfmcjdimaaGreat.E
open Go
set_option linter.unusedVariables false
set_option linter.unusedSimpArgs false
set_option maxRecDepth 100000
def instrV (p : VPrg) (q : List Int) (u : Wd) (c : Int × Int × Int) (l : List Wd) (a : Int) (o : Bool) : List Wd × Int × Bool :=
  let x := l.getD (l.length - 1) (0, 0)
  let y := l.getD (l.length - 2) (0, 0)
  let C := p.2.2.2.1.getD c.2.1.toNat (0, 0)
  let T := p.2.2.2.2.1.getD c.2.1.toNat []
  let w1 := fun (z : CW) => (l.take (l.length - 1) ++ [z.1], a, z.2)
  let w2 := fun (z : CW) => (l.take (l.length - 2) ++ [z.1], a, z.2)
  if c.1 = 1 then (l ++ [C], a, o)
  else if c.1 = 2 then (l ++ [ofV (q.getD c.2.1.toNat 0)], a, o)
  else if c.1 = 3 then (l ++ [ofV (blkV (q.getD c.2.1.toNat 0) (p.2.2.1.getD c.2.1.toNat 0))], a, o)
  else if c.1 = 4 then w1 (ck (-wp_ x) o)
  else if c.1 = 5 then w2 (ck (wp_ y + wp_ x) o)
  else if c.1 = 6 then w2 (ck (wp_ y - wp_ x) o)
  else if c.1 = 7 then w2 (ck (wp_ y * wp_ x) o)
  else if c.1 = 8 then w2 (bif decide (cmpv (wp_ x) (wp_ y) < 0) then x else y, o)
  else if c.1 = 9 then w2 (bif decide (cmpv (wp_ x) (wp_ y) > 0) then x else y, o)
  else if c.1 = 10 then w1 (overV x C o)
  else if c.1 = 11 then w1 (uptoV x C, o)
  else if c.1 = 12 then w1 (gradV T x u o)
  else if c.1 = 13 then w1 (volV T x u o)
  else if c.1 = 14 then w1 (offV x c.2.1 o)
  else if c.1 = 15 then (l, a + c.2.2, o)
  else (l.take (l.length - 1), bif holdsV (cmpv (wp_ x) (wp_ C)) (c.1 - 15) then a else a + c.2.2, o)
def tbl : List (Option Nat) := [none, some 43, some 44, some 45, some 46, some 47, some 48, some 49, some 50, some 51, some 52, some 53, some 54, some 55, some 56, some 57, some 58, some 58, some 58, some 58, some 58, some 58]
theorem vTable : N22 () = some (tbl, ()) := by kernel_rfl
def workV (op : Int) : Mch × (Int × Int × Int) × Unit → Option (Mch × Unit) :=
  if op = 1 then N43 else if op = 2 then N44 else if op = 3 then N45 else if op = 4 then N46 else if op = 5 then N47 else if op = 6 then N48 else if op = 7 then N49 else if op = 8 then N50 else if op = 9 then N51 else if op = 10 then N52 else if op = 11 then N53 else if op = 12 then N54 else if op = 13 then N55 else if op = 14 then N56 else if op = 15 then N57 else N58
abbrev ZP : Type := Int × Int × List Int × List Wd × List (List Tr) × List (Int × Int × Int) × Unit
def zp (p : VPrg) : ZP := (p.1, p.2.1, p.2.2.1, p.2.2.2.1, p.2.2.2.2.1, p.2.2.2.2.2, ())
def nextV (z : ZP) (y : Mch × Unit) : Option (LA11_2 ⊕ LB11_2) := bif y.1.2.2.2.2.2.2.1 then some (.inr (.inr (0, 0, 10, ()))) else some (.inl (z, (y.1.1, y.1.2.1, y.1.2.2.1, y.1.2.2.2.1, y.1.2.2.2.2.1, IntKind.wrap .i64 (y.1.2.2.2.2.2.1 + 1), y.1.2.2.2.2.2.2.1, ()), tbl, ()))
theorem vRound {p : VPrg} {q : List Int} {u : Wd} {l : List Wd} {i s : Nat} (hi : i < p.2.2.2.2.2.length) (hn : i ≤ 100000) (ho : 1 ≤ p.2.2.2.2.2[i].1 ∧ p.2.2.2.2.2[i].1 ≤ 21) :
    R11_2 (zp p, mc p q u l i s false, tbl, ()) = (workV p.2.2.2.2.2[i].1 (mc p q u l ((i + 1 : Nat) : Int) s false, p.2.2.2.2.2[i], ())).bind (nextV (zp p)) := by
  have hg := at_get hi
  generalize p.2.2.2.2.2[i] = c at *
  obtain ⟨p0, p1, p2, p3, p4, p5⟩ := p
  obtain ⟨u0, u1⟩ := u
  obtain ⟨op, c1, c2⟩ := c
  simp only at hi hg ho
  unfold R11_2 Q11_2 mc zp
  simp only []
  rw [bif_t (c := decide ((i : Int) < (p5.length : Int))) (decide_eq_true (by omega)), hg]
  simp only [Option.bind_some]
  rw [wsi (n := (i : Int) + 1) (by omega), show (i : Int) + 1 = ((i + 1 : Nat) : Int) by omega]
  have : op = 1 ∨ op = 2 ∨ op = 3 ∨ op = 4 ∨ op = 5 ∨ op = 6 ∨ op = 7 ∨ op = 8 ∨ op = 9 ∨ op = 10 ∨ op = 11 ∨ op = 12 ∨ op = 13 ∨ op = 14 ∨ op = 15 ∨ op = 16 ∨ op = 17 ∨ op = 18 ∨ op = 19 ∨ op = 20 ∨ op = 21 := by omega
  rcases this with rfl | rfl | rfl | rfl | rfl | rfl | rfl | rfl | rfl | rfl | rfl | rfl | rfl | rfl | rfl | rfl | rfl | rfl | rfl | rfl | rfl <;> rfl
end Go.Proofs.YtaalnjfmcjdimaaGreat.E
/-
  Programs as bytes: what the two checks and the two encoders answer is the same. No condition but the sizes that any machine's memory has.
-/
namespace Go.Proofs.YtaalnjfmcjdimaaGreat.E
open Go
set_option linter.unusedVariables false
set_option maxRecDepth 100000
/-! ### tables -/
def badTier (l : List (Int × Int)) (j : Nat) : Bool :=
  (decide (0 < j) && decide ((l.getD j (0, 0)).1 ≤ (l.getD (j - 1) (0, 0)).1)) || decide ((l.getD j (0, 0)).1 > 1000000000000) || decide ((l.getD j (0, 0)).2 < -1000000000000) || decide ((l.getD j (0, 0)).2 > 1000000000000)
def tiersOk (l : List (Int × Int)) : Bool :=
  bif decide ((l.length : Int) < 1) then false else bif decide ((l.length : Int) > 16) then false else bif (l.getD 0 (0, 0)).1 != 0 then false else !((List.range' 0 l.length).any (badTier l))
theorem getD_at {γ : Type} {l : List γ} {j : Nat} {z : γ} (h : j < l.length) : l.getD j z = l[j] := by
  rw [List.getD_eq_getElem?_getD, List.getElem?_eq_getElem h]
  rfl
theorem eright {l : List (Int × Int)} (hl : l.length ≤ 140737488355328) : N37 (l, ()) = some (tiersOk l, ()) := by
  unfold N37 M37 tiersOk
  simp only []
  cases h1 : decide ((l.length : Int) < 1) with
  | true => rfl
  | false =>
  cases h2 : decide ((l.length : Int) > 16) with
  | true => rfl
  | false =>
  have h1 := of_decide_eq_false h1
  have hp : 0 < l.length := by omega
  simp only [cond_false]
  rw [List.getElem?_eq_getElem hp, getD_at hp]
  simp only [Option.bind_some]
  cases h3 : (l[0].1 != 0) with
  | true => rfl
  | false =>
  simp only [cond_false]
  have := itrs_any (ro := R37_0) (fun j => (l, l, (l.length : Int), (j : Int), ())) (badTier l) (.inr (false, ())) (.inl ()) l.length (x := (l, l, (l.length : Int), 0, ())) rfl (fun j hj => by
    unfold R37_0 Q37_0
    simp only []
    rw [bif_t (decide_eq_true (show (j : Int) < (l.length : Int) by omega)), at_get hj]
    simp only [Option.bind_some]
    rw [wsi (n := (j : Int) + 1) (by omega)]
    unfold badTier
    rw [getD_at hj]
    by_cases h0 : 0 < j
    · rw [bif_t (decide_eq_true (show (j : Int) > 0 by omega)), wsi (n := (j : Int) - 1) (by omega), show (j : Int) - 1 = ((j - 1 : Nat) : Int) from by omega, at_get (show j - 1 < l.length by omega), getD_at (show j - 1 < l.length by omega), decide_eq_true h0]
      simp only [Option.bind_some, Bool.true_and, show (j : Int) + 1 = ((j + 1 : Nat) : Int) from by omega]
      cases decide (l[j].1 ≤ l[j - 1].1) <;> cases decide (l[j].1 > 1000000000000) <;> cases decide (l[j].2 < -1000000000000) <;> cases decide (l[j].2 > 1000000000000) <;> rfl
    · rw [bif_f (decide_eq_false (show ¬ (j : Int) > 0 by omega)), decide_eq_false h0]
      simp only [Bool.false_and, Bool.false_or, show (j : Int) + 1 = ((j + 1 : Nat) : Int) from by omega]
      cases decide (l[j].1 > 1000000000000) <;> cases decide (l[j].2 < -1000000000000) <;> cases decide (l[j].2 > 1000000000000) <;> rfl) (by
    unfold R37_0 Q37_0
    simp only []
    rw [bif_f (decide_eq_false (by omega))]) (by omega)
  rw [this]
  cases (List.range' 0 l.length).any (badTier l) <;> rfl
theorem rTiers {l : List (Int × Int)} (hl : l.length ≤ 140737488355328) : N67 (l, ()) = some (tiersOk l, ()) := by
  unfold N67 M67 tiersOk
  simp only []
  by_cases h1 : l.length = 0
  · rw [bif_t (show ((l.length : Int) == 0) = true from by simp [h1]), bif_t (decide_eq_true (by omega))]
  rw [bif_f (show ((l.length : Int) == 0) = false from by simp; intro e; rw [e] at h1; simp at h1), bif_f (decide_eq_false (show ¬ (l.length : Int) < 1 by omega))]
  cases h2 : decide ((l.length : Int) > 16) with
  | true => rfl
  | false =>
  have hp : 0 < l.length := by omega
  simp only [cond_false]
  rw [List.getElem?_eq_getElem hp, getD_at hp]
  simp only [Option.bind_some]
  cases h3 : (l[0].1 != 0) with
  | true => rfl
  | false =>
  simp only [cond_false]
  have := itrs_any (ro := R67_0) (fun j => (l, (j : Int), ())) (badTier l) (.inr (false, ())) (.inl ()) l.length (x := (l, 0, ())) rfl (fun j hj => by
    unfold R67_0 Q67_0
    simp only []
    rw [bif_t (decide_eq_true (show (j : Int) < (l.length : Int) by omega)), at_get hj]
    simp only [Option.bind_some]
    rw [wsi (n := (j : Int) + 1) (by omega)]
    unfold badTier
    rw [getD_at hj]
    by_cases h0 : 0 < j
    · rw [bif_t (decide_eq_true (show (j : Int) > 0 by omega)), wsi (n := (j : Int) - 1) (by omega), show (j : Int) - 1 = ((j - 1 : Nat) : Int) from by omega, at_get (show j - 1 < l.length by omega), getD_at (show j - 1 < l.length by omega), decide_eq_true h0]
      simp only [Option.bind_some, Bool.true_and, show (j : Int) + 1 = ((j + 1 : Nat) : Int) from by omega, ge_iff_le]
      cases decide (l[j].1 ≤ l[j - 1].1) <;> cases decide (l[j].1 > 1000000000000) <;> cases decide (l[j].2 < -1000000000000) <;> cases decide (l[j].2 > 1000000000000) <;> rfl
    · rw [bif_f (decide_eq_false (show ¬ (j : Int) > 0 by omega)), decide_eq_false h0]
      simp only [Bool.false_and, Bool.false_or, show (j : Int) + 1 = ((j + 1 : Nat) : Int) from by omega]
      cases decide (l[j].1 > 1000000000000) <;> cases decide (l[j].2 < -1000000000000) <;> cases decide (l[j].2 > 1000000000000) <;> rfl) (by
    unfold R67_0 Q67_0
    simp only []
    rw [bif_f (decide_eq_false (by omega))]) (by omega)
  rw [this]
  cases (List.range' 0 l.length).any (badTier l) <;> rfl
/-! ### checks -/
abbrev Prg : Type := Int × Int × List Int × List (Int × Int) × List (List (Int × Int)) × List (Int × Int × Int)
def badSize (x : Int) : Bool := decide (x < 1) || decide (x > 1000000000000)
def badInstr (c : Int × Int × Int) : Bool := decide (c.1 < 0) || decide (c.1 > 255) || decide (c.2.1 < 0) || decide (c.2.1 > 65535) || decide (c.2.2 < 0) || decide (c.2.2 > 65535)
def chk (p : Prg) : Int :=
  bif decide (p.1 < 0) then 1 else bif decide (p.1 > 4) then 1 else bif decide (p.2.1 < 0) then 1 else bif decide (p.2.1 > 6) then 1 else bif decide ((p.2.2.1.length : Int) < 1) then 1 else bif decide ((p.2.2.1.length : Int) > 4) then 1 else
  bif (List.range' 0 p.2.2.1.length).any (fun j => badSize (p.2.2.1.getD j 0)) then 1 else
  bif decide ((p.2.2.2.1.length : Int) > 1024) then 2 else bif decide ((p.2.2.2.2.1.length : Int) > 1024) then 2 else bif decide ((p.2.2.2.2.2.length : Int) > 8192) then 2 else
  bif (List.range' 0 p.2.2.2.2.1.length).any (fun j => !tiersOk (p.2.2.2.2.1.getD j [])) then 51 else
  bif (List.range' 0 p.2.2.2.2.2.length).any (fun j => badInstr (p.2.2.2.2.2.getD j (0, 0, 0))) then 170 else 0
structure Small (p : Prg) : Prop where
  a : p.2.2.1.length ≤ 140737488355328
  b : p.2.2.2.1.length ≤ 140737488355328
  c : p.2.2.2.2.1.length ≤ 140737488355328
  d : p.2.2.2.2.2.length ≤ 140737488355328
  e : ∀ l ∈ p.2.2.2.2.1, l.length ≤ 140737488355328
theorem echeck {p : Prg} (hp : Small p) : N17 (p, ()) = some (chk p, ()) := by
  obtain ⟨mode, scale, sizes, consts, scales, code⟩ := p
  obtain ⟨pa, pb, pc, pd, pe⟩ := hp
  simp only at pa pb pc pd pe
  unfold N17 M17 chk
  simp only []
  cases decide (mode < 0)
  rotate_left
  · rfl
  cases decide (mode > 4)
  rotate_left
  · rfl
  cases decide (scale < 0)
  rotate_left
  · rfl
  cases decide (scale > 6)
  rotate_left
  · rfl
  cases decide ((sizes.length : Int) < 1)
  rotate_left
  · rfl
  cases decide ((sizes.length : Int) > 4)
  rotate_left
  · rfl
  simp only [cond_false]
  have L0 := itrs_any (ro := R17_0) (fun j => ((mode, scale, sizes, consts, scales, code, ()), sizes, (sizes.length : Int), (j : Int), ())) (fun j => badSize (sizes.getD j 0)) (.inr (1, ())) (.inl ((mode, scale, sizes, consts, scales, code, ()), ())) sizes.length (x := ((mode, scale, sizes, consts, scales, code, ()), sizes, (sizes.length : Int), 0, ())) rfl (fun j hj => by
    unfold R17_0 Q17_0 badSize
    simp only []
    rw [bif_t (decide_eq_true (show (j : Int) < (sizes.length : Int) by omega)), at_get hj, getD_at hj]
    simp only [Option.bind_some]
    rw [wsi (n := (j : Int) + 1) (by omega)]
    simp only [show (j : Int) + 1 = ((j + 1 : Nat) : Int) from by omega]
    cases decide (sizes[j] < 1) <;> cases decide (sizes[j] > 1000000000000) <;> rfl) (by
    unfold R17_0 Q17_0
    simp only []
    rw [bif_f (decide_eq_false (by omega))]) (by omega)
  rw [L0]
  cases (List.range' 0 sizes.length).any (fun j => badSize (sizes.getD j 0))
  rotate_left
  · rfl
  simp only [cond_false, Option.bind_some]
  cases decide ((consts.length : Int) > 1024)
  rotate_left
  · rfl
  cases decide ((scales.length : Int) > 1024)
  rotate_left
  · rfl
  cases decide ((code.length : Int) > 8192)
  rotate_left
  · rfl
  simp only [cond_false]
  have L2 := itrs_any (ro := R17_2) (fun j => ((mode, scale, sizes, consts, scales, code, ()), scales, (scales.length : Int), (j : Int), ())) (fun j => !tiersOk (scales.getD j [])) (.inr (51, ())) (.inl ((mode, scale, sizes, consts, scales, code, ()), ())) scales.length (x := ((mode, scale, sizes, consts, scales, code, ()), scales, (scales.length : Int), 0, ())) rfl (fun j hj => by
    unfold R17_2 Q17_2
    simp only []
    rw [bif_t (decide_eq_true (show (j : Int) < (scales.length : Int) by omega)), at_get hj, getD_at hj]
    simp only [Option.bind_some]
    rw [eright (pe _ (List.getElem_mem hj))]
    simp only [Option.bind_some]
    rw [wsi (n := (j : Int) + 1) (by omega)]
    simp only [show (j : Int) + 1 = ((j + 1 : Nat) : Int) from by omega]) (by
    unfold R17_2 Q17_2
    simp only []
    rw [bif_f (decide_eq_false (by omega))]) (by omega)
  rw [L2]
  cases (List.range' 0 scales.length).any (fun j => !tiersOk (scales.getD j []))
  rotate_left
  · rfl
  simp only [cond_false, Option.bind_some]
  have L4 := itrs_any (ro := R17_4) (fun j => (code, (code.length : Int), (j : Int), ())) (fun j => badInstr (code.getD j (0, 0, 0))) (.inr (170, ())) (.inl ()) code.length (x := (code, (code.length : Int), 0, ())) rfl (fun j hj => by
    unfold R17_4 Q17_4 badInstr
    simp only []
    rw [bif_t (decide_eq_true (show (j : Int) < (code.length : Int) by omega)), at_get hj, getD_at hj]
    simp only [Option.bind_some]
    rw [wsi (n := (j : Int) + 1) (by omega)]
    simp only [show (j : Int) + 1 = ((j + 1 : Nat) : Int) from by omega]
    cases decide (code[j].1 < 0)
    rotate_left
    · rfl
    cases decide (code[j].1 > 255)
    rotate_left
    · rfl
    cases decide (code[j].2.1 < 0)
    rotate_left
    · rfl
    cases decide (code[j].2.1 > 65535)
    rotate_left
    · rfl
    cases decide (code[j].2.2 < 0) <;> cases decide (code[j].2.2 > 65535) <;> rfl) (by
    unfold R17_4 Q17_4
    simp only []
    rw [bif_f (decide_eq_false (by omega))]) (by omega)
  rw [L4]
  cases (List.range' 0 code.length).any (fun j => badInstr (code.getD j (0, 0, 0))) <;> rfl
theorem rCheck {p : Prg} (hp : Small p) : N28 (p, ()) = some (chk p, ()) := by
  obtain ⟨mode, scale, sizes, consts, scales, code⟩ := p
  obtain ⟨pa, pb, pc, pd, pe⟩ := hp
  simp only at pa pb pc pd pe
  unfold N28 M28 chk
  simp only []
  cases decide (mode < 0)
  rotate_left
  · rfl
  cases decide (mode > 4)
  rotate_left
  · rfl
  cases decide (scale < 0)
  rotate_left
  · rfl
  cases decide (scale > 6)
  rotate_left
  · rfl
  simp only [cond_false]
  rw [show ((sizes.length : Int) == 0) = decide ((sizes.length : Int) < 1) from by rw [Bool.eq_iff_iff]; simp only [beq_iff_eq, decide_eq_true_eq]; omega]
  cases decide ((sizes.length : Int) < 1)
  rotate_left
  · rfl
  cases decide ((sizes.length : Int) > 4)
  rotate_left
  · rfl
  simp only [cond_false]
  have L0 := itrs_any (ro := R28_0) (fun j => ((mode, scale, sizes, consts, scales, code, ()), (j : Int), ())) (fun j => badSize (sizes.getD j 0)) (.inr (1, ())) (.inl ((mode, scale, sizes, consts, scales, code, ()), ())) sizes.length (x := ((mode, scale, sizes, consts, scales, code, ()), 0, ())) rfl (fun j hj => by
    unfold R28_0 Q28_0 badSize
    simp only []
    rw [bif_t (decide_eq_true (show (j : Int) < (sizes.length : Int) by omega)), at_get hj, getD_at hj]
    simp only [Option.bind_some]
    rw [wsi (n := (j : Int) + 1) (by omega)]
    simp only [show (j : Int) + 1 = ((j + 1 : Nat) : Int) from by omega]
    cases decide (sizes[j] < 1) <;> cases decide (sizes[j] > 1000000000000) <;> rfl) (by
    unfold R28_0 Q28_0
    simp only []
    rw [bif_f (decide_eq_false (by omega))]) (by omega)
  rw [L0]
  cases (List.range' 0 sizes.length).any (fun j => badSize (sizes.getD j 0))
  rotate_left
  · rfl
  simp only [cond_false, Option.bind_some]
  cases decide ((consts.length : Int) > 1024)
  rotate_left
  · rfl
  cases decide ((scales.length : Int) > 1024)
  rotate_left
  · rfl
  cases decide ((code.length : Int) > 8192)
  rotate_left
  · rfl
  simp only [cond_false]
  have L2 := itrs_any (ro := R28_2) (fun j => ((mode, scale, sizes, consts, scales, code, ()), (j : Int), ())) (fun j => !tiersOk (scales.getD j [])) (.inr (51, ())) (.inl ((mode, scale, sizes, consts, scales, code, ()), ())) scales.length (x := ((mode, scale, sizes, consts, scales, code, ()), 0, ())) rfl (fun j hj => by
    unfold R28_2 Q28_2
    simp only []
    rw [bif_t (decide_eq_true (show (j : Int) < (scales.length : Int) by omega)), at_get hj, getD_at hj]
    simp only [Option.bind_some]
    rw [rTiers (pe _ (List.getElem_mem hj))]
    simp only [Option.bind_some]
    rw [wsi (n := (j : Int) + 1) (by omega)]
    simp only [show (j : Int) + 1 = ((j + 1 : Nat) : Int) from by omega]) (by
    unfold R28_2 Q28_2
    simp only []
    rw [bif_f (decide_eq_false (by omega))]) (by omega)
  rw [L2]
  cases (List.range' 0 scales.length).any (fun j => !tiersOk (scales.getD j []))
  rotate_left
  · rfl
  simp only [cond_false, Option.bind_some]
  have L4 := itrs_any (ro := R28_4) (fun j => ((mode, scale, sizes, consts, scales, code, ()), (j : Int), ())) (fun j => badInstr (code.getD j (0, 0, 0))) (.inr (170, ())) (.inl ()) code.length (x := ((mode, scale, sizes, consts, scales, code, ()), 0, ())) rfl (fun j hj => by
    unfold R28_4 Q28_4 badInstr
    simp only []
    rw [bif_t (decide_eq_true (show (j : Int) < (code.length : Int) by omega)), at_get hj, getD_at hj]
    simp only [Option.bind_some]
    rw [wsi (n := (j : Int) + 1) (by omega)]
    simp only [show (j : Int) + 1 = ((j + 1 : Nat) : Int) from by omega]
    cases decide (code[j].1 < 0)
    rotate_left
    · rfl
    cases decide (code[j].1 > 255)
    rotate_left
    · rfl
    cases decide (code[j].2.1 < 0)
    rotate_left
    · rfl
    cases decide (code[j].2.1 > 65535)
    rotate_left
    · rfl
    cases decide (code[j].2.2 < 0) <;> cases decide (code[j].2.2 > 65535) <;> rfl) (by
    unfold R28_4 Q28_4
    simp only []
    rw [bif_f (decide_eq_false (by omega))]) (by omega)
  rw [L4]
  cases (List.range' 0 code.length).any (fun j => badInstr (code.getD j (0, 0, 0))) <;> rfl
end Go.Proofs.YtaalnjfmcjdimaaGreat.E
/-
  Programs as bytes: what the two encoders answer is the same. No condition but the sizes that any machine's memory has.
-/
namespace Go.Proofs.YtaalnjfmcjdimaaGreat.E
open Go
set_option linter.unusedVariables false
set_option maxRecDepth 100000
def le : Nat → Int → List Int
  | 0, _ => []
  | k + 1, x => x % 256 :: le k (x / 256)
theorem le_len : ∀ (k : Nat) (x : Int), (le k x).length = k
  | 0, _ => rfl
  | k + 1, x => by rw [le, List.length_cons, le_len k]
theorem flat_len {γ δ : Type} {f : γ → List δ} {m : Nat} : ∀ (l : List γ), (∀ x ∈ l, (f x).length ≤ m) → (l.flatMap f).length ≤ l.length * m
  | [], _ => by simp
  | x :: l, h => by
    have h1 := h x (by simp)
    have h2 := flat_len l fun y hy => h y (by simp [hy])
    rw [List.flatMap_cons, List.length_append, List.length_cons, Nat.add_mul, Nat.one_mul]
    omega
theorem flat_take_len {γ δ : Type} {f : γ → List δ} {m : Nat} {l : List γ} (h : ∀ x ∈ l, (f x).length ≤ m) (j : Nat) : ((l.take j).flatMap f).length ≤ l.length * m := by
  have h1 := flat_len (l.take j) fun x hx => h x (List.mem_of_mem_take hx)
  have h2 : (l.take j).length ≤ l.length := by simp; omega
  exact Nat.le_trans h1 (Nat.mul_le_mul_right _ h2)
theorem eput_loop (K : Nat) (hK : K ≤ 8) : ∀ (m j : Nat) (b : List Int) (n : Int), j + m = K → 0 ≤ n ∧ n ≤ 18446744073709551615 → b.length + m ≤ 140737488355328 → itr R18_0 (m + 1) (b, n, (K : Int), (j : Int), ()) = some (b ++ le m n, ())
  | 0, j, b, n, hj, hn, hb => by
    refine itr_out ?_
    unfold R18_0 Q18_0
    simp only []
    rw [bif_f (decide_eq_false (by omega)), le, List.append_nil]
  | m + 1, j, b, n, hj, hn, hb => by
    have hs : R18_0 (b, n, (K : Int), (j : Int), ()) = some (.inl (b ++ [n % 256], n / 256, (K : Int), ((j + 1 : Nat) : Int), ())) := by
      unfold R18_0 Q18_0
      simp only []
      rw [bif_t (decide_eq_true (by omega)), bif_t (decide_eq_true (by omega)), w8, fdiv_pos (by omega), wsi (by omega)]
      rfl
    rw [itr_in hs, eput_loop K hK m (j + 1) (b ++ [n % 256]) (n / 256) (by omega) (by omega) (by simp; omega), le]
    simp
theorem eput {b : List Int} {n : Int} {K : Nat} (hK : K ≤ 8) (hn : 0 ≤ n ∧ n ≤ 18446744073709551615) (hb : b.length + K ≤ 140737488355328) : N18 (b, n, (K : Int), ()) = some (b ++ le K n, ()) := by
  unfold N18 M18
  simp only []
  have := itrs_of (eput_loop K hK K 0 b n (by omega) hn hb) (by omega)
  rw [show (0 : Int) = ((0 : Nat) : Int) from rfl, this]
  rfl
def u64 (x : Int) : Int := x % 18446744073709551616
theorem u64_in (x : Int) : 0 ≤ u64 x ∧ u64 x ≤ 18446744073709551615 := by unfold u64; omega
def encSize (s : Int) : List Int := le 8 (u64 s)
def encWide (w : Int × Int) : List Int := le 8 w.2 ++ le 8 (u64 w.1)
def encTier (t : Int × Int) : List Int := le 8 (u64 t.1) ++ le 8 (u64 t.2)
def encTiers (l : List (Int × Int)) : List Int := ((l.length : Int) % 256) :: l.flatMap encTier
def encInstr (c : Int × Int × Int) : List Int := le 1 (u64 c.1) ++ le 2 (u64 c.2.1) ++ le 2 (u64 c.2.2)
def headB (p : Prg) : List Int := [79, 67, 84, 49, p.1 % 256, p.2.1 % 256, (p.2.2.1.length : Int) % 256]
def encB (p : Prg) : List Int :=
  headB p ++ p.2.2.1.flatMap encSize ++ le 2 (p.2.2.2.1.length : Int) ++ p.2.2.2.1.flatMap encWide ++ le 2 (p.2.2.2.2.1.length : Int) ++ p.2.2.2.2.1.flatMap encTiers ++ le 2 (p.2.2.2.2.2.length : Int) ++ p.2.2.2.2.2.flatMap encInstr
section
variable (z : Int × Int × List Int × List (Int × Int) × List (List (Int × Int)) × List (Int × Int × Int) × Unit)
theorem e_sizes {b l : List Int} (h : b.length + l.length * 8 ≤ 140737488355328) : itrs R9_0 (z, b, l, (l.length : Int), 0, ()) = some (z, b ++ l.flatMap encSize, ()) := by
  obtain ⟨z0, z1, z2, z3, z4, z5, ⟨⟩⟩ := z
  refine itrs_seq (fun j => ((z0, z1, z2, z3, z4, z5, ()), b ++ (l.take j).flatMap encSize, l, (l.length : Int), (j : Int), ())) l.length (by simp) (fun j hj => ?_) ?_ (by omega)
  · have hb := flat_take_len (f := encSize) (m := 8) (l := l) (fun x _ => by simp [encSize, le_len]) j
    have hj2 : ((l.take j).flatMap encSize).length ≤ j * 8 := Nat.le_trans (flat_len (l.take j) fun x _ => by simp [encSize, le_len]) (Nat.mul_le_mul_right _ (by simp; omega))
    unfold R9_0 Q9_0
    simp only []
    rw [bif_t (decide_eq_true (by omega)), at_get hj]
    simp only [Option.bind_some]
    have := eput (b := b ++ (l.take j).flatMap encSize) (n := u64 l[j]) (K := 8) (by omega) (u64_in _) (by rw [List.length_append]; omega)
    rw [wu, show l[j] % 18446744073709551616 = u64 l[j] from rfl, show (8 : Int) = ((8 : Nat) : Int) from rfl, this]
    simp only [Option.bind_some]
    rw [wsi (by omega), take_flat _ _ hj, List.append_assoc]
    rfl
  · unfold R9_0 Q9_0
    simp only []
    rw [bif_f (decide_eq_false (by omega)), List.take_length]
theorem e_consts {b : List Int} {l : List (Int × Int)} (hl : ∀ w ∈ l, 0 ≤ w.2 ∧ w.2 ≤ 18446744073709551615) (h : b.length + l.length * 16 ≤ 140737488355328) : itrs R9_2 (z, b, l, (l.length : Int), 0, ()) = some (z, b ++ l.flatMap encWide, ()) := by
  obtain ⟨z0, z1, z2, z3, z4, z5, ⟨⟩⟩ := z
  refine itrs_seq (fun j => ((z0, z1, z2, z3, z4, z5, ()), b ++ (l.take j).flatMap encWide, l, (l.length : Int), (j : Int), ())) l.length (by simp) (fun j hj => ?_) ?_ (by omega)
  · have hj2 : ((l.take j).flatMap encWide).length ≤ j * 16 := Nat.le_trans (flat_len (l.take j) fun x _ => by simp [encWide, le_len]) (Nat.mul_le_mul_right _ (by simp; omega))
    unfold R9_2 Q9_2
    simp only []
    rw [bif_t (decide_eq_true (by omega)), at_get hj]
    simp only [Option.bind_some]
    rw [wu, show l[j].1 % 18446744073709551616 = u64 l[j].1 from rfl, show (8 : Int) = ((8 : Nat) : Int) from rfl, eput (by omega) (hl _ (List.getElem_mem hj)) (by rw [List.length_append]; omega)]
    simp only [Option.bind_some]
    rw [eput (by omega) (u64_in _) (by rw [List.length_append, List.length_append, le_len]; omega)]
    simp only [Option.bind_some]
    rw [wsi (by omega), take_flat _ _ hj, List.append_assoc, List.append_assoc]
    rfl
  · unfold R9_2 Q9_2
    simp only []
    rw [bif_f (decide_eq_false (by omega)), List.take_length]
theorem e_tiers {b : List Int} {l : List (Int × Int)} {ts : List (List (Int × Int))} {n i : Int} (h : b.length + l.length * 16 ≤ 140737488355328) : itrs R9_6 (z, b, ts, n, i, l, (l.length : Int), 0, ()) = some (z, b ++ l.flatMap encTier, ts, n, i, ()) := by
  obtain ⟨z0, z1, z2, z3, z4, z5, ⟨⟩⟩ := z
  refine itrs_seq (fun j => ((z0, z1, z2, z3, z4, z5, ()), b ++ (l.take j).flatMap encTier, ts, n, i, l, (l.length : Int), (j : Int), ())) l.length (by simp) (fun j hj => ?_) ?_ (by omega)
  · have hj2 : ((l.take j).flatMap encTier).length ≤ j * 16 := Nat.le_trans (flat_len (l.take j) fun x _ => by simp [encTier, le_len]) (Nat.mul_le_mul_right _ (by simp; omega))
    unfold R9_6 Q9_6
    simp only []
    rw [bif_t (decide_eq_true (by omega)), at_get hj]
    simp only [Option.bind_some]
    rw [wu, wu, show l[j].1 % 18446744073709551616 = u64 l[j].1 from rfl, show l[j].2 % 18446744073709551616 = u64 l[j].2 from rfl, show (8 : Int) = ((8 : Nat) : Int) from rfl, eput (by omega) (u64_in _) (by rw [List.length_append]; omega)]
    simp only [Option.bind_some]
    rw [eput (by omega) (u64_in _) (by rw [List.length_append, List.length_append, le_len]; omega)]
    simp only [Option.bind_some]
    rw [wsi (by omega), take_flat _ _ hj, List.append_assoc, List.append_assoc]
    rfl
  · unfold R9_6 Q9_6
    simp only []
    rw [bif_f (decide_eq_false (by omega)), List.take_length]
theorem encTiers_len {l : List (Int × Int)} (h : l.length ≤ 16) : (encTiers l).length ≤ 257 := by
  have := flat_len (f := encTier) (m := 16) l fun x _ => by simp [encTier, le_len]
  rw [encTiers, List.length_cons]
  omega
theorem e_scales {b : List Int} {l : List (List (Int × Int))} (hl : ∀ t ∈ l, t.length ≤ 16) (h : b.length + l.length * 257 ≤ 140737488355328) : itrs R9_4 (z, b, l, (l.length : Int), 0, ()) = some (z, b ++ l.flatMap encTiers, ()) := by
  obtain ⟨z0, z1, z2, z3, z4, z5, ⟨⟩⟩ := z
  refine itrs_seq (fun j => ((z0, z1, z2, z3, z4, z5, ()), b ++ (l.take j).flatMap encTiers, l, (l.length : Int), (j : Int), ())) l.length (by simp) (fun j hj => ?_) ?_ (by omega)
  · have hj2 : ((l.take j).flatMap encTiers).length ≤ j * 257 := Nat.le_trans (flat_len (l.take j) fun x hx => encTiers_len (hl x (List.mem_of_mem_take hx))) (Nat.mul_le_mul_right _ (by simp; omega))
    have ht := hl _ (List.getElem_mem hj)
    unfold R9_4 Q9_4
    simp only []
    rw [bif_t (decide_eq_true (by omega)), at_get hj]
    simp only [Option.bind_some]
    rw [bif_t (decide_eq_true (by rw [List.length_append]; omega))]
    simp only [Option.bind_some]
    rw [e_tiers _ (by simp only [List.length_append, List.length_singleton]; omega)]
    simp only [Option.bind_some]
    rw [wsi (by omega), take_flat _ _ hj, w8]
    simp [encTiers]
  · unfold R9_4 Q9_4
    simp only []
    rw [bif_f (decide_eq_false (by omega)), List.take_length]
omit z in
theorem e_code {b : List Int} {l : List (Int × Int × Int)} (h : b.length + l.length * 5 ≤ 140737488355328) : itrs R9_8 (b, l, (l.length : Int), 0, ()) = some (b ++ l.flatMap encInstr, ()) := by
  refine itrs_seq (fun j => (b ++ (l.take j).flatMap encInstr, l, (l.length : Int), (j : Int), ())) l.length (by simp) (fun j hj => ?_) ?_ (by omega)
  · have hj2 : ((l.take j).flatMap encInstr).length ≤ j * 5 := Nat.le_trans (flat_len (l.take j) fun x _ => by simp [encInstr, le_len]) (Nat.mul_le_mul_right _ (by simp; omega))
    unfold R9_8 Q9_8
    simp only []
    rw [bif_t (decide_eq_true (by omega)), at_get hj]
    simp only [Option.bind_some]
    rw [wu, wu, wu, show l[j].1 % 18446744073709551616 = u64 l[j].1 from rfl, show l[j].2.1 % 18446744073709551616 = u64 l[j].2.1 from rfl, show l[j].2.2 % 18446744073709551616 = u64 l[j].2.2 from rfl]
    have p1 := eput (b := b ++ (l.take j).flatMap encInstr) (n := u64 l[j].1) (K := 1) (by omega) (u64_in _) (by rw [List.length_append]; omega)
    rw [show (1 : Int) = ((1 : Nat) : Int) from rfl, p1]
    simp only [Option.bind_some]
    rw [show (2 : Int) = ((2 : Nat) : Int) from rfl, eput (by omega) (u64_in _) (by simp only [List.length_append, le_len]; omega)]
    simp only [Option.bind_some]
    rw [eput (by omega) (u64_in _) (by simp only [List.length_append, le_len]; omega)]
    simp only [Option.bind_some]
    rw [wsi (by omega), take_flat _ _ hj]
    simp [encInstr]
  · unfold R9_8 Q9_8
    simp only []
    rw [bif_f (decide_eq_false (by omega)), List.take_length]
/-! ### the reference -/
end
section
variable (mode scale : Int) (sizes : List Int) (consts : List (Int × Int)) (scales : List (List (Int × Int))) (code : List (Int × Int × Int))
end
end Go.Proofs.YtaalnjfmcjdimaaGreat.E
/-
  Programs as bytes: the two encoders, whole. No condition but the sizes that any machine's memory has.
-/
namespace Go.Proofs.YtaalnjfmcjdimaaGreat.E
open Go
set_option linter.unusedVariables false
set_option maxRecDepth 100000
theorem bif_zero {c : Bool} {a b : Int} (ha : a ≠ 0) (h : (bif c then a else b) = 0) : c = false ∧ b = 0 := by
  cases c with
  | true => exact absurd h ha
  | false => exact ⟨rfl, h⟩
theorem tiersOk_len {l : List (Int × Int)} (h : tiersOk l = true) : l.length ≤ 16 := by
  unfold tiersOk at h
  cases h1 : decide ((l.length : Int) < 1) with
  | true => rw [h1] at h; cases h
  | false =>
    rw [h1] at h
    cases h2 : decide ((l.length : Int) > 16) with
    | true => rw [h2] at h; cases h
    | false =>
      have := of_decide_eq_false h2
      omega
structure Fit (p : Prg) : Prop where
  a : p.2.2.1.length ≤ 4
  b : p.2.2.2.1.length ≤ 1024
  c : p.2.2.2.2.1.length ≤ 1024
  d : p.2.2.2.2.2.length ≤ 8192
  e : ∀ l ∈ p.2.2.2.2.1, l.length ≤ 16
theorem chk_fit {p : Prg} (h : chk p = 0) : Fit p := by
  unfold chk at h
  obtain ⟨_, h⟩ := bif_zero (by decide) h
  obtain ⟨_, h⟩ := bif_zero (by decide) h
  obtain ⟨_, h⟩ := bif_zero (by decide) h
  obtain ⟨_, h⟩ := bif_zero (by decide) h
  obtain ⟨_, h⟩ := bif_zero (by decide) h
  obtain ⟨ha, h⟩ := bif_zero (by decide) h
  obtain ⟨_, h⟩ := bif_zero (by decide) h
  obtain ⟨hb, h⟩ := bif_zero (by decide) h
  obtain ⟨hc, h⟩ := bif_zero (by decide) h
  obtain ⟨hd, h⟩ := bif_zero (by decide) h
  obtain ⟨he, h⟩ := bif_zero (by decide) h
  have ha := of_decide_eq_false ha
  have hb := of_decide_eq_false hb
  have hc := of_decide_eq_false hc
  have hd := of_decide_eq_false hd
  refine ⟨by omega, by omega, by omega, by omega, fun l hl => ?_⟩
  obtain ⟨j, hj, rfl⟩ := List.getElem_of_mem hl
  rw [List.any_eq_false] at he
  have := he j (by rw [List.mem_range'_1]; omega)
  rw [getD_at hj] at this
  exact tiersOk_len (by simpa using this)
def encans (p : Prg) : List Int × Int × Unit := bif chk p != 0 then ([], chk p, ()) else (encB p, 0, ())
def Los (p : Prg) : Prop := ∀ w ∈ p.2.2.2.1, 0 ≤ w.2 ∧ w.2 ≤ 18446744073709551615
theorem eEncode {p : Prg} (hp : Small p) (hw : Los p) : N9 (p, ()) = some (encans p) := by
  have hc := echeck hp
  have hf := chk_fit (p := p)
  unfold encans encB headB
  generalize chk p = e at *
  obtain ⟨mode, scale, sizes, consts, scales, code⟩ := p
  unfold N9 M9
  simp only []
  rw [hc]
  simp only [Option.bind_some]
  by_cases h0 : e = 0
  · obtain ⟨fa, fb, fc, fd, fe⟩ := hf h0
    simp only at fa fb fc fd fe
    subst h0
    simp only [bne_self_eq_false, cond_false]
    have s1 := flat_len (f := encSize) (m := 8) sizes fun x _ => by simp [encSize, le_len]
    have s2 := flat_len (f := encWide) (m := 16) consts fun x _ => by simp [encWide, le_len]
    have s3 := flat_len (f := encTiers) (m := 257) scales fun x hx => encTiers_len (fe x hx)
    rw [e_sizes _ (by simp; omega)]
    simp only [Option.bind_some]
    rw [wui (n := (consts.length : Int)) (by omega), show (2 : Int) = ((2 : Nat) : Int) from rfl, eput (by omega) (by omega) (by simp only [List.length_append, List.length_cons, List.length_nil]; omega)]
    simp only [Option.bind_some]
    rw [e_consts _ hw (by simp only [List.length_append, List.length_cons, List.length_nil, le_len]; omega)]
    simp only [Option.bind_some]
    rw [wui (n := (scales.length : Int)) (by omega), eput (by omega) (by omega) (by simp only [List.length_append, List.length_cons, List.length_nil, le_len]; omega)]
    simp only [Option.bind_some]
    rw [e_scales _ fe (by simp only [List.length_append, List.length_cons, List.length_nil, le_len]; omega)]
    simp only [Option.bind_some]
    rw [wui (n := (code.length : Int)) (by omega), eput (by omega) (by omega) (by simp only [List.length_append, List.length_cons, List.length_nil, le_len]; omega)]
    simp only [Option.bind_some]
    rw [e_code (by simp only [List.length_append, List.length_cons, List.length_nil, le_len]; omega)]
    simp only [Option.bind_some, w8]
    rfl
  · have hb : (e != 0) = true := by simpa using h0
    rw [hb]
    rfl
end Go.Proofs.YtaalnjfmcjdimaaGreat.E
/-
  Bytes read as numbers, as the two decoders do. No condition but the bytes' own bounds.
-/
namespace Go.Proofs.YtaalnjfmcjdimaaGreat.E
open Go
set_option linter.unusedVariables false
set_option maxRecDepth 100000
theorem or_word {a b S : Int} {s : Nat} (hS : S = 2 ^ s) (ha : 0 ≤ a) (hb : 0 ≤ b ∧ b < S) (h : a * S + b ≤ 18446744073709551615) : IntKind.wrap .u64 ↑(BitVec.toNat (BitVec.ofInt 64 (a * S) ||| BitVec.ofInt 64 b)) = a * S + b := by
  have hS0 : 0 < S := by rw [hS]; exact Int.pow_pos (by decide)
  have h0 : 0 ≤ a * S := Int.mul_nonneg ha (by omega)
  obtain ⟨A, rfl⟩ := Int.eq_ofNat_of_zero_le ha
  obtain ⟨B, rfl⟩ := Int.eq_ofNat_of_zero_le hb.1
  have e : ((A : Int) * S) = ((A * 2 ^ s : Nat) : Int) := by rw [hS]; simp
  have hB : B < 2 ^ s := by have := hb.2; rw [hS] at this; exact_mod_cast this
  rw [e] at h ⊢
  have := u64_or_nat (A * 2 ^ s) B (by omega) (by omega)
  rw [show IntKind.wrap .u64 ↑(BitVec.toNat (BitVec.ofInt 64 ((A * 2 ^ s : Nat) : Int) ||| BitVec.ofInt 64 ((B : Nat) : Int))) = Go.bits .or .u64 ((A * 2 ^ s : Nat) : Int) ((B : Nat) : Int) from rfl, this, Nat.mul_comm, ← Nat.two_pow_add_eq_or_of_lt hB]
  simp
def num : List Int → Int
  | [] => 0
  | x :: r => x + 256 * num r
def Byte (x : Int) : Prop := 0 ≤ x ∧ x ≤ 255
theorem num_in : ∀ (l : List Int), (∀ x ∈ l, Byte x) → 0 ≤ num l ∧ num l < 256 ^ l.length
  | [], _ => by simp [num]
  | x :: l, h => by
    have h1 := h x (by simp)
    unfold Byte at h1
    obtain ⟨i1, i2⟩ := num_in l fun y hy => h y (by simp [hy])
    simp only [num, List.length_cons, Int.pow_succ]
    generalize (256 : Int) ^ l.length = p at *
    omega
theorem pow256 {m : Nat} (h : m ≤ 7) : (256 : Int) ^ m ≤ 72057594037927936 := by
  have : m = 0 ∨ m = 1 ∨ m = 2 ∨ m = 3 ∨ m = 4 ∨ m = 5 ∨ m = 6 ∨ m = 7 := by omega
  rcases this with rfl | rfl | rfl | rfl | rfl | rfl | rfl | rfl <;> decide
theorem take_loop {b : List Int} (hb : ∀ x ∈ b, Byte x) (s : Bool) {k : Nat} (hk : k ≤ 8) (hl : k ≤ b.length) : ∀ (m : Nat), m ≤ k →
    itr R39_0 (m + 1) ((b, s, ()), (k : Int), num ((b.take k).drop m), (m : Int) - 1, ()) = some ((b, s, ()), (k : Int), num (b.take k), ())
  | 0, _ => by
    refine itr_out ?_
    unfold R39_0 Q39_0
    simp only []
    rw [bif_f (decide_eq_false (by omega)), List.drop_zero]
  | m + 1, hm => by
    have hlen : (b.take k).length = k := by simp; omega
    have hmk : m < (b.take k).length := by omega
    have hbm : b[m] = (b.take k)[m] := by simp
    have hx := hb b[m] (List.getElem_mem (by omega))
    unfold Byte at hx
    obtain ⟨n0, n1⟩ := num_in ((b.take k).drop (m + 1)) fun y hy => hb y (List.mem_of_mem_take (List.mem_of_mem_drop hy))
    rw [List.length_drop, hlen] at n1
    have hp := pow256 (m := k - (m + 1)) (by omega)
    have hs : R39_0 ((b, s, ()), (k : Int), num ((b.take k).drop (m + 1)), ((m + 1 : Nat) : Int) - 1, ()) = some (.inl ((b, s, ()), (k : Int), num ((b.take k).drop m), (m : Int) - 1, ())) := by
      unfold R39_0 Q39_0
      simp only []
      rw [show ((m + 1 : Nat) : Int) - 1 = (m : Int) from by omega, bif_t (decide_eq_true (by omega)), at_get (show m < b.length by omega)]
      simp only [Option.bind_some]
      rw [wui (n := num ((b.take k).drop (m + 1)) * 256) (by omega), wui (n := b[m]) (by omega), or_word (S := 256) (s := 8) (by decide) n0 (by omega) (by omega), wsi (by omega), List.drop_eq_getElem_cons hmk]
      simp only [num]
      rw [← hbm, show num ((b.take k).drop (m + 1)) * 256 + b[m] = b[m] + 256 * num ((b.take k).drop (m + 1)) from by omega]
    rw [itr_in hs]
    exact take_loop hb s hk hl m (by omega)
def tk (b : List Int) (s : Bool) (k : Nat) : Int × (List Int × Bool × Unit) × Unit := bif decide (b.length < k) then (0, (b, true, ()), ()) else (num (b.take k), (b.drop k, s, ()), ())
theorem etake {b : List Int} (hb : ∀ x ∈ b, Byte x) (hl : b.length ≤ 140737488355328) (s : Bool) {k : Nat} (hk : 1 ≤ k ∧ k ≤ 8) : N39 ((b, s, ()), (k : Int), ()) = some (tk b s k) := by
  unfold N39 M39 tk
  simp only []
  by_cases h : b.length < k
  · rw [bif_t (decide_eq_true (by omega)), bif_t (decide_eq_true h)]
  · rw [bif_f (decide_eq_false (by omega)), bif_f (decide_eq_false h), wsi (n := (k : Int) - 1) (by omega)]
    have := itrs_of (take_loop hb s hk.2 (by omega) k (Nat.le_refl _)) (by omega)
    rw [List.drop_eq_nil_of_le (by rw [List.length_take]; omega)] at this
    rw [show (0 : Int) = num [] from rfl, this]
    simp only [Option.bind_some]
    rw [bif_t (show (decide (num [] ≤ (k : Int)) && decide ((k : Int) ≤ (b.length : Int)) && decide ((b.length : Int) ≤ (b.length : Int))) = true from by rw [decide_eq_true (show num [] ≤ (k : Int) by simp [num]), decide_eq_true (by omega), decide_eq_true (by omega)]; rfl)]
    simp only [Option.bind_some, Int.toNat_natCast]
    have ht : (b.drop k).take (b.length - k) = b.drop k := List.take_of_length_le (by rw [List.length_drop]; exact Nat.le_refl _)
    rw [ht]
end Go.Proofs.YtaalnjfmcjdimaaGreat.E
/-
  Programs read from bytes: the parser that both decoders follow. No condition.
-/
namespace Go.Proofs.YtaalnjfmcjdimaaGreat.E
open Go
set_option linter.unusedVariables false
set_option maxRecDepth 100000
/-! ### parsers -/
abbrev Ps (α : Type) : Type := List Int → Option (α × List Int)
def Ps.bind {α β : Type} (p : Ps α) (f : α → Ps β) : Ps β := fun l => match p l with | some (a, l') => f a l' | none => none
def Ps.ret {α : Type} (a : α) : Ps α := fun l => some (a, l)
def pnum (k : Nat) : Ps Int := fun l => bif decide (l.length < k) then none else some (num (l.take k), l.drop k)
def rep {α : Type} (p : Ps α) : Nat → Ps (List α)
  | 0 => Ps.ret []
  | n + 1 => p.bind fun a => (rep p n).bind fun r => Ps.ret (a :: r)
def sw64 (x : Int) : Int := IntKind.wrap .i64 x
def pSize : Ps Int := (pnum 8).bind fun x => Ps.ret (sw64 x)
def pWide : Ps (Int × Int) := (pnum 8).bind fun lo => (pnum 8).bind fun hi => Ps.ret (sw64 hi, lo)
def pTier : Ps (Int × Int) := (pnum 8).bind fun a => (pnum 8).bind fun b => Ps.ret (sw64 a, sw64 b)
def pTiers : Ps (List (Int × Int)) := (pnum 1).bind fun n => rep pTier n.toNat
def pInstr : Ps (Int × Int × Int) := (pnum 1).bind fun a => (pnum 2).bind fun b => (pnum 2).bind fun c => Ps.ret (sw64 a, sw64 b, sw64 c)
def pMany {α : Type} (k : Nat) (p : Ps α) : Ps (List α) := (pnum k).bind fun n => rep p n.toNat
def pPrg : Ps Prg :=
  (pnum 1).bind fun mode => (pnum 1).bind fun scale => (pMany 1 pSize).bind fun sizes => (pMany 2 pWide).bind fun consts => (pMany 2 pTiers).bind fun scales => (pMany 2 pInstr).bind fun code => Ps.ret (sw64 mode, sw64 scale, sizes, consts, scales, code)
def Takes {α : Type} (m : Nat) (p : Ps α) : Prop := ∀ l a l', p l = some (a, l') → ∃ k, m ≤ k ∧ k ≤ l.length ∧ l' = l.drop k
theorem takes_pnum (k : Nat) : Takes k (pnum k) := by
  intro l a l' h
  unfold pnum at h
  cases hk : decide (l.length < k) with
  | true => rw [hk] at h; cases h
  | false =>
    rw [hk] at h
    have := of_decide_eq_false hk
    simp only [cond_false, Option.some.injEq, Prod.mk.injEq] at h
    exact ⟨k, Nat.le_refl _, by omega, h.2.symm⟩
theorem takes_ret {α : Type} (a : α) : Takes 0 (Ps.ret a) := by
  intro l b l' h
  unfold Ps.ret at h
  injection h with h
  injection h with h1 h2
  exact ⟨0, Nat.le_refl _, Nat.zero_le _, by rw [List.drop_zero]; exact h2.symm⟩
theorem takes_bind {α β : Type} {m n : Nat} {p : Ps α} {f : α → Ps β} (hp : Takes m p) (hf : ∀ a, Takes n (f a)) : Takes (m + n) (p.bind f) := by
  intro l b l' h
  unfold Ps.bind at h
  split at h
  · rename_i a l1 h1
    obtain ⟨k1, a1, a2, rfl⟩ := hp l a l1 h1
    obtain ⟨k2, b1, b2, rfl⟩ := hf a _ b l' h
    rw [List.length_drop] at b2
    exact ⟨k1 + k2, by omega, by omega, by rw [List.drop_drop]⟩
  · cases h
theorem takes_mono {α : Type} {m n : Nat} {p : Ps α} (h : Takes m p) (hn : n ≤ m) : Takes n p := fun l a l' e => by
  obtain ⟨k, k1, k2, k3⟩ := h l a l' e
  exact ⟨k, by omega, k2, k3⟩
theorem takes_rep {α : Type} {m : Nat} {p : Ps α} (h : Takes m p) : ∀ n, Takes (n * m) (rep p n)
  | 0 => by rw [Nat.zero_mul]; exact takes_ret []
  | n + 1 => by
    have := takes_bind h fun a => takes_bind (takes_rep h n) fun r => takes_ret (a :: r)
    exact takes_mono this (by rw [Nat.add_mul]; omega)
theorem rep_short {α : Type} {m : Nat} {p : Ps α} (h : Takes m p) {n : Nat} {l : List Int} (hl : l.length < n * m) : rep p n l = none := by
  cases e : rep p n l with
  | none => rfl
  | some x =>
    obtain ⟨k, k1, k2, _⟩ := takes_rep h n l x.1 x.2 e
    omega
end Go.Proofs.YtaalnjfmcjdimaaGreat.E
/-
  Programs read from bytes: readers that go on behind the end, told beside parsers. No condition.
-/
namespace Go.Proofs.YtaalnjfmcjdimaaGreat.E
open Go
set_option linter.unusedVariables false
set_option maxRecDepth 100000
abbrev Sg : Type := List Int × Bool
def Bs (b : List Int) : Prop := ∀ x ∈ b, Byte x
theorem Bs.drop {b : List Int} (h : Bs b) (k : Nat) : Bs (b.drop k) := fun x hx => h x (List.mem_of_mem_drop hx)
def tkS (k : Nat) (st : Sg) : Int × Sg := bif decide (st.1.length < k) then (0, (st.1, true)) else (num (st.1.take k), (st.1.drop k, st.2))
def ctS (k each : Nat) (st : Sg) : Int × Sg := bif decide ((tkS k st).1 * (each : Int) > ((tkS k st).2.1.length : Int)) then (0, ((tkS k st).2.1, true)) else tkS k st
def bindS {α β : Type} (f : Sg → α × Sg) (g : α → Sg → β × Sg) : Sg → β × Sg := fun st => g (f st).1 (f st).2
def retS {α : Type} (a : α) : Sg → α × Sg := fun st => (a, st)
def repS {α : Type} (f : Sg → α × Sg) : Nat → List α → Sg → List α × Sg
  | 0, acc, st => (acc, st)
  | n + 1, acc, st => repS f n (acc ++ [(f st).1]) (f st).2
structure Fo {α : Type} (f : Sg → α × Sg) (p : Ps α) : Prop where
  keep : ∀ b s, Bs b → Bs (f (b, s)).2.1 ∧ (f (b, s)).2.1.length ≤ b.length
  stay : ∀ b, Bs b → (f (b, true)).2.2 = true
  ok : ∀ b v l, Bs b → p b = some (v, l) → f (b, false) = (v, (l, false))
  bad : ∀ b, Bs b → p b = none → (f (b, false)).2.2 = true
theorem fo_tk (k : Nat) : Fo (tkS k) (pnum k) := by
  refine ⟨fun b s hb => ?_, fun b hb => ?_, fun b v l hb h => ?_, fun b hb h => ?_⟩
  · unfold tkS
    cases decide ((b, s).1.length < k) with
    | true => exact ⟨hb, Nat.le_refl _⟩
    | false => exact ⟨hb.drop k, by simp⟩
  · unfold tkS
    cases decide ((b, true).1.length < k) <;> rfl
  · unfold pnum at h
    unfold tkS
    cases hk : decide (b.length < k) with
    | true => rw [hk] at h; cases h
    | false =>
      rw [hk] at h
      simp only [cond_false, Option.some.injEq, Prod.mk.injEq] at h
      obtain ⟨rfl, rfl⟩ := h
      rfl
  · unfold pnum at h
    unfold tkS
    cases hk : decide (b.length < k) with
    | true => rfl
    | false => rw [hk] at h; cases h
theorem fo_ret {α : Type} (a : α) : Fo (retS a) (Ps.ret a) := by
  refine ⟨fun b s hb => ⟨hb, Nat.le_refl _⟩, fun b hb => rfl, fun b v l hb h => ?_, fun b hb h => by cases h⟩
  unfold Ps.ret at h
  injection h with h
  injection h with h1 h2
  subst h1 h2
  rfl
theorem fo_bind {α β : Type} {f : Sg → α × Sg} {p : Ps α} {g : α → Sg → β × Sg} {q : α → Ps β} (hf : Fo f p) (hg : ∀ a, Fo (g a) (q a)) : Fo (bindS f g) (p.bind q) := by
  refine ⟨fun b s hb => ?_, fun b hb => ?_, fun b v l hb h => ?_, fun b hb h => ?_⟩
  · obtain ⟨k1, k2⟩ := hf.keep b s hb
    obtain ⟨k3, k4⟩ := (hg (f (b, s)).1).keep (f (b, s)).2.1 (f (b, s)).2.2 k1
    exact ⟨k3, Nat.le_trans k4 k2⟩
  · have h1 := hf.stay b hb
    obtain ⟨k1, k2⟩ := hf.keep b true hb
    have := (hg (f (b, true)).1).stay (f (b, true)).2.1 k1
    unfold bindS
    rw [show (f (b, true)).2 = ((f (b, true)).2.1, true) from Prod.ext rfl h1]
    exact this
  · unfold Ps.bind at h
    split at h
    · rename_i a l1 h1
      have e1 := hf.ok b a l1 hb h1
      have hb1 : Bs l1 := by have := (hf.keep b false hb).1; rw [e1] at this; exact this
      unfold bindS
      rw [e1]
      exact (hg a).ok l1 v l hb1 h
    · cases h
  · unfold Ps.bind at h
    unfold bindS
    split at h
    · rename_i a l1 h1
      have e1 := hf.ok b a l1 hb h1
      have hb1 : Bs l1 := by have := (hf.keep b false hb).1; rw [e1] at this; exact this
      rw [e1]
      exact (hg a).bad l1 hb1 h
    · rename_i h1
      have e1 := hf.bad b hb h1
      obtain ⟨k1, k2⟩ := hf.keep b false hb
      have := (hg (f (b, false)).1).stay (f (b, false)).2.1 k1
      rw [show (f (b, false)).2 = ((f (b, false)).2.1, true) from Prod.ext rfl e1]
      exact this
theorem repS_acc {α : Type} (f : Sg → α × Sg) : ∀ (n : Nat) (acc : List α) (st : Sg), repS f n acc st = (acc ++ (repS f n [] st).1, (repS f n [] st).2)
  | 0, acc, st => by simp [repS]
  | n + 1, acc, st => by
    rw [repS, repS_acc f n (acc ++ [(f st).1]), repS, repS_acc f n ([] ++ [(f st).1])]
    simp
theorem repS_bind {α : Type} (f : Sg → α × Sg) (n : Nat) : repS f (n + 1) [] = bindS f fun a => bindS (repS f n []) fun r => retS (a :: r) := by
  funext st
  rw [repS, repS_acc]
  simp [bindS, retS]
theorem repS_len {α : Type} (f : Sg → α × Sg) : ∀ (n : Nat) (acc : List α) (st : Sg), (repS f n acc st).1.length = acc.length + n
  | 0, acc, st => by simp [repS]
  | n + 1, acc, st => by rw [repS, repS_len f n]; simp; omega
theorem fo_rep {α : Type} {f : Sg → α × Sg} {p : Ps α} (h : Fo f p) : ∀ n, Fo (repS f n []) (rep p n)
  | 0 => fo_ret []
  | n + 1 => by
    rw [repS_bind]
    exact fo_bind h fun a => fo_bind (fo_rep h n) fun r => fo_ret (a :: r)
theorem num_nonneg {b : List Int} (hb : Bs b) : 0 ≤ num b := (num_in b hb).1
theorem fo_count {α : Type} {f : Sg → α × Sg} {p : Ps α} (h : Fo f p) {k each : Nat} (ht : Takes each p) : Fo (bindS (ctS k each) fun n => repS f n.toNat []) ((pnum k).bind fun n => rep p n.toNat) := by
  have base := fo_bind (fo_tk k) fun n : Int => fo_rep h n.toNat
  have hk : ∀ b s, Bs b → Bs (tkS k (b, s)).2.1 ∧ (tkS k (b, s)).2.1.length ≤ b.length := (fo_tk k).keep
  have hpos : ∀ b s, Bs b → 0 ≤ (tkS k (b, s)).1 := by
    intro b s hb
    unfold tkS
    cases decide ((b, s).1.length < k) with
    | true => exact Int.le_refl _
    | false => exact num_nonneg fun x hx => hb x (List.mem_of_mem_take hx)
  -- where the look fails
  have far : ∀ b s, Bs b → decide ((tkS k (b, s)).1 * (each : Int) > ((tkS k (b, s)).2.1.length : Int)) = true → bindS (ctS k each) (fun n => repS f n.toNat []) (b, s) = ([], ((tkS k (b, s)).2.1, true)) := by
    intro b s hb hd
    unfold bindS ctS
    rw [hd]
    rfl
  have near : ∀ b s, decide ((tkS k (b, s)).1 * (each : Int) > ((tkS k (b, s)).2.1.length : Int)) = false → bindS (ctS k each) (fun n => repS f n.toNat []) (b, s) = bindS (tkS k) (fun n => repS f n.toNat []) (b, s) := by
    intro b s hd
    unfold bindS ctS
    rw [hd]
    rfl
  have none_far : ∀ b v l, Bs b → pnum k b = some (v, l) → decide (v * (each : Int) > (l.length : Int)) = true → rep p v.toNat l = none := by
    intro b v l hb h1 hd
    have e1 := (fo_tk k).ok b v l hb h1
    have hv := hpos b false hb
    rw [e1] at hv
    refine rep_short ht ?_
    have := of_decide_eq_true hd
    obtain ⟨V, rfl⟩ := Int.eq_ofNat_of_zero_le hv
    rw [Int.toNat_natCast]
    exact_mod_cast this
  refine ⟨fun b s hb => ?_, fun b hb => ?_, fun b v l hb h1 => ?_, fun b hb h1 => ?_⟩
  · cases hd : decide ((tkS k (b, s)).1 * (each : Int) > ((tkS k (b, s)).2.1.length : Int)) with
    | true => rw [far b s hb hd]; exact hk b s hb
    | false => rw [near b s hd]; exact base.keep b s hb
  · cases hd : decide ((tkS k (b, true)).1 * (each : Int) > ((tkS k (b, true)).2.1.length : Int)) with
    | true => rw [far b true hb hd]
    | false => rw [near b true hd]; exact base.stay b hb
  · cases hd : decide ((tkS k (b, false)).1 * (each : Int) > ((tkS k (b, false)).2.1.length : Int)) with
    | true =>
      exfalso
      unfold Ps.bind at h1
      split at h1
      · rename_i a l1 h2
        have e1 := (fo_tk k).ok b a l1 hb h2
        rw [e1] at hd
        have h3 := none_far b a l1 hb h2 hd
        have h1 : rep p a.toNat l1 = some (v, l) := h1
        rw [h3] at h1
        cases h1
      · cases h1
    | false => rw [near b false hd]; exact base.ok b v l hb h1
  · cases hd : decide ((tkS k (b, false)).1 * (each : Int) > ((tkS k (b, false)).2.1.length : Int)) with
    | true => rw [far b false hb hd]
    | false => rw [near b false hd]; exact base.bad b hb h1
end Go.Proofs.YtaalnjfmcjdimaaGreat.E
/-
  The program's decoder, told by its readers. No condition but the sizes that any machine's memory has.
-/
namespace Go.Proofs.YtaalnjfmcjdimaaGreat.E
open Go
set_option linter.unusedVariables false
set_option maxRecDepth 100000
def Bl (b : List Int) : Prop := Bs b ∧ b.length ≤ 140737488355328
def fl1 (t : Int × Sg) : Int × (List Int × Bool × Unit) × Unit := (t.1, (t.2.1, t.2.2, ()), ())
theorem tk_S (b : List Int) (s : Bool) (k : Nat) : tk b s k = fl1 (tkS k (b, s)) := by
  unfold tk tkS fl1
  simp only []
  cases decide (b.length < k) <;> rfl
theorem Bl.tk {b : List Int} (h : Bl b) (s : Bool) (k : Nat) : Bl (tkS k (b, s)).2.1 := by
  obtain ⟨h1, h2⟩ := (fo_tk k).keep b s h.1
  exact ⟨h1, Nat.le_trans h2 h.2⟩
theorem eTake {b : List Int} (hb : Bl b) (s : Bool) {k : Nat} (hk : 1 ≤ k ∧ k ≤ 8) : N39 ((b, s, ()), (k : Int), ()) = some (fl1 (tkS k (b, s))) := by
  rw [etake hb.1 hb.2 s hk, tk_S]
theorem tkS_in {b : List Int} (hb : Bs b) (s : Bool) {k : Nat} (hk : k ≤ 2) : 0 ≤ (tkS k (b, s)).1 ∧ (tkS k (b, s)).1 ≤ 65535 := by
  unfold tkS
  cases hd : decide ((b, s).1.length < k) with
  | true => exact ⟨Int.le_refl _, by show (0 : Int) ≤ 65535; omega⟩
  | false =>
    obtain ⟨h0, h1⟩ := num_in (b.take k) fun x hx => hb x (List.mem_of_mem_take hx)
    have hl : (b.take k).length ≤ 2 := by rw [List.length_take]; omega
    have : (256 : Int) ^ (b.take k).length ≤ 65536 := by
      have : (b.take k).length = 0 ∨ (b.take k).length = 1 ∨ (b.take k).length = 2 := by omega
      rcases this with e | e | e <;> rw [e] <;> decide
    simp only [cond_false]
    omega
theorem eCount {b : List Int} (hb : Bl b) (s : Bool) {k each : Nat} (hk : 1 ≤ k ∧ k ≤ 2) (he : each ≤ 16) : N40 ((b, s, ()), (k : Int), (each : Int), ()) = some (fl1 (ctS k each (b, s))) := by
  have hv := tkS_in hb.1 s hk.2
  unfold N40 M40 ctS
  simp only []
  rw [eTake hb s ⟨hk.1, by omega⟩]
  have hm : 0 ≤ (tkS k (b, s)).1 * (each : Int) ∧ (tkS k (b, s)).1 * (each : Int) ≤ 1048560 := by
    refine ⟨Int.mul_nonneg hv.1 (by omega), ?_⟩
    have := Int.mul_le_mul hv.2 (show (each : Int) ≤ 16 by omega) (by omega) (by omega)
    omega
  simp only [fl1, Option.bind_some]
  rw [wsi (n := (tkS k (b, s)).1) (by omega), wsi (by omega)]
  cases decide ((tkS k (b, s)).1 * (each : Int) > ((tkS k (b, s)).2.1.length : Int)) <;> rfl
def fSize : Sg → Int × Sg := bindS (tkS 8) fun x => retS (sw64 x)
def fWide : Sg → (Int × Int) × Sg := bindS (tkS 8) fun lo => bindS (tkS 8) fun hi => retS (sw64 hi, lo)
def fTier : Sg → (Int × Int) × Sg := bindS (tkS 8) fun a => bindS (tkS 8) fun b => retS (sw64 a, sw64 b)
def fTiers : Sg → List (Int × Int) × Sg := bindS (ctS 1 16) fun n => repS fTier n.toNat []
def fInstr : Sg → (Int × Int × Int) × Sg := bindS (tkS 1) fun a => bindS (tkS 2) fun b => bindS (tkS 2) fun c => retS (sw64 a, sw64 b, sw64 c)
theorem fo_size : Fo fSize pSize := fo_bind (fo_tk 8) fun x => fo_ret (sw64 x)
theorem fo_wide : Fo fWide pWide := fo_bind (fo_tk 8) fun lo => fo_bind (fo_tk 8) fun hi => fo_ret (sw64 hi, lo)
theorem fo_tier : Fo fTier pTier := fo_bind (fo_tk 8) fun a => fo_bind (fo_tk 8) fun b => fo_ret (sw64 a, sw64 b)
theorem takes_tier : Takes 16 pTier := takes_bind (takes_pnum 8) fun a => takes_bind (takes_pnum 8) fun b => takes_ret (sw64 a, sw64 b)
theorem fo_tiers : Fo fTiers pTiers := fo_count fo_tier takes_tier
theorem fo_instr : Fo fInstr pInstr := fo_bind (fo_tk 1) fun a => fo_bind (fo_tk 2) fun b => fo_bind (fo_tk 2) fun c => fo_ret (sw64 a, sw64 b, sw64 c)
theorem Fo.bl {α : Type} {f : Sg → α × Sg} {p : Ps α} (h : Fo f p) {b : List Int} (hb : Bl b) (s : Bool) : Bl (f (b, s)).2.1 := by
  obtain ⟨h1, h2⟩ := h.keep b s hb.1
  exact ⟨h1, Nat.le_trans h2 hb.2⟩
abbrev Zf : Type := Int × Int × List Int × List (Int × Int) × List (List (Int × Int)) × List (Int × Int × Int) × Unit
theorem d_sizes (z : Zf) (mode scale : Int) (consts : List (Int × Int)) (scales : List (List (Int × Int))) (code : List (Int × Int × Int)) {n : Nat} (hn : n ≤ 65535) : ∀ (m j : Nat) (acc : List Int) (b : List Int) (s : Bool), j + m = n → acc.length ≤ j → Bl b →
    itr R20_0 (m + 1) (z, (b, s, ()), (mode, scale, acc, consts, scales, code, ()), (n : Int), (j : Int), ()) = some (z, ((repS fSize m acc (b, s)).2.1, (repS fSize m acc (b, s)).2.2, ()), (mode, scale, (repS fSize m acc (b, s)).1, consts, scales, code, ()), ())
  | 0, j, acc, b, s, hj, ha, hb => by
    obtain ⟨z0, z1, z2, z3, z4, z5, ⟨⟩⟩ := z
    refine itr_out ?_
    unfold R20_0 Q20_0
    simp only []
    rw [bif_f (decide_eq_false (by omega))]
    rfl
  | m + 1, j, acc, b, s, hj, ha, hb => by
    obtain ⟨z0, z1, z2, z3, z4, z5, ⟨⟩⟩ := z
    have hs : R20_0 ((z0, z1, z2, z3, z4, z5, ()), (b, s, ()), (mode, scale, acc, consts, scales, code, ()), (n : Int), (j : Int), ()) = some (.inl ((z0, z1, z2, z3, z4, z5, ()), ((fSize (b, s)).2.1, (fSize (b, s)).2.2, ()), (mode, scale, acc ++ [(fSize (b, s)).1], consts, scales, code, ()), (n : Int), ((j + 1 : Nat) : Int), ())) := by
      unfold R20_0 Q20_0
      simp only []
      rw [bif_t (decide_eq_true (by omega)), show (8 : Int) = ((8 : Nat) : Int) from rfl, eTake hb s (by omega)]
      simp only [fl1, Option.bind_some]
      rw [bif_t (decide_eq_true (by omega))]
      simp only [Option.bind_some]
      rw [wsi (n := (j : Int) + 1) (by omega)]
      rfl
    rw [itr_in hs]
    have := d_sizes (z0, z1, z2, z3, z4, z5, ()) mode scale consts scales code hn m (j + 1) (acc ++ [(fSize (b, s)).1]) (fSize (b, s)).2.1 (fSize (b, s)).2.2 (by omega) (by simp; omega) (fo_size.bl hb s)
    exact this
theorem d_consts (z : Zf) (mode scale : Int) (sizes : List Int) (scales : List (List (Int × Int))) (code : List (Int × Int × Int)) {n : Nat} (hn : n ≤ 65535) : ∀ (m j : Nat) (acc : List (Int × Int)) (b : List Int) (s : Bool), j + m = n → acc.length ≤ j → Bl b →
    itr R20_2 (m + 1) (z, (b, s, ()), (mode, scale, sizes, acc, scales, code, ()), (n : Int), (j : Int), ()) = some (z, ((repS fWide m acc (b, s)).2.1, (repS fWide m acc (b, s)).2.2, ()), (mode, scale, sizes, (repS fWide m acc (b, s)).1, scales, code, ()), ())
  | 0, j, acc, b, s, hj, ha, hb => by
    obtain ⟨z0, z1, z2, z3, z4, z5, ⟨⟩⟩ := z
    refine itr_out ?_
    unfold R20_2 Q20_2
    simp only []
    rw [bif_f (decide_eq_false (by omega))]
    rfl
  | m + 1, j, acc, b, s, hj, ha, hb => by
    obtain ⟨z0, z1, z2, z3, z4, z5, ⟨⟩⟩ := z
    have hs : R20_2 ((z0, z1, z2, z3, z4, z5, ()), (b, s, ()), (mode, scale, sizes, acc, scales, code, ()), (n : Int), (j : Int), ()) = some (.inl ((z0, z1, z2, z3, z4, z5, ()), ((fWide (b, s)).2.1, (fWide (b, s)).2.2, ()), (mode, scale, sizes, acc ++ [(fWide (b, s)).1], scales, code, ()), (n : Int), ((j + 1 : Nat) : Int), ())) := by
      unfold R20_2 Q20_2
      simp only []
      rw [bif_t (decide_eq_true (by omega))]
      rw [show (8 : Int) = ((8 : Nat) : Int) from rfl, eTake hb s (by omega)]
      simp only [fl1, Option.bind_some]
      rw [eTake (hb.tk s 8) (tkS 8 (b, s)).2.2 (by omega)]
      simp only [fl1, Option.bind_some]
      rw [bif_t (decide_eq_true (by omega))]
      simp only [Option.bind_some]
      rw [wsi (n := (j : Int) + 1) (by omega)]
      rfl
    rw [itr_in hs]
    exact d_consts (z0, z1, z2, z3, z4, z5, ()) mode scale sizes scales code hn m (j + 1) (acc ++ [(fWide (b, s)).1]) (fWide (b, s)).2.1 (fWide (b, s)).2.2 (by omega) (by simp; omega) (fo_wide.bl hb s)
theorem d_code (z : Zf) (mode scale : Int) (sizes : List Int) (consts : List (Int × Int)) (scales : List (List (Int × Int))) {n : Nat} (hn : n ≤ 65535) : ∀ (m j : Nat) (acc : List (Int × Int × Int)) (b : List Int) (s : Bool), j + m = n → acc.length ≤ j → Bl b →
    itr R20_8 (m + 1) (z, (b, s, ()), (mode, scale, sizes, consts, scales, acc, ()), (n : Int), (j : Int), ()) = some (z, ((repS fInstr m acc (b, s)).2.1, (repS fInstr m acc (b, s)).2.2, ()), (mode, scale, sizes, consts, scales, (repS fInstr m acc (b, s)).1, ()), ())
  | 0, j, acc, b, s, hj, ha, hb => by
    obtain ⟨z0, z1, z2, z3, z4, z5, ⟨⟩⟩ := z
    refine itr_out ?_
    unfold R20_8 Q20_8
    simp only []
    rw [bif_f (decide_eq_false (by omega))]
    rfl
  | m + 1, j, acc, b, s, hj, ha, hb => by
    obtain ⟨z0, z1, z2, z3, z4, z5, ⟨⟩⟩ := z
    have hs : R20_8 ((z0, z1, z2, z3, z4, z5, ()), (b, s, ()), (mode, scale, sizes, consts, scales, acc, ()), (n : Int), (j : Int), ()) = some (.inl ((z0, z1, z2, z3, z4, z5, ()), ((fInstr (b, s)).2.1, (fInstr (b, s)).2.2, ()), (mode, scale, sizes, consts, scales, acc ++ [(fInstr (b, s)).1], ()), (n : Int), ((j + 1 : Nat) : Int), ())) := by
      unfold R20_8 Q20_8
      simp only []
      rw [bif_t (decide_eq_true (by omega))]
      have p1 : N39 ((b, s, ()), 1, ()) = some (fl1 (tkS 1 (b, s))) := eTake hb s (k := 1) (by omega)
      rw [p1]
      simp only [fl1, Option.bind_some]
      rw [show (2 : Int) = ((2 : Nat) : Int) from rfl, eTake (hb.tk s 1) (tkS 1 (b, s)).2.2 (by omega)]
      simp only [fl1, Option.bind_some]
      rw [eTake ((hb.tk s 1).tk (tkS 1 (b, s)).2.2 2) (tkS 2 (tkS 1 (b, s)).2).2.2 (by omega)]
      simp only [fl1, Option.bind_some]
      rw [bif_t (decide_eq_true (by omega))]
      simp only [Option.bind_some]
      rw [wsi (n := (j : Int) + 1) (by omega)]
      rfl
    rw [itr_in hs]
    exact d_code (z0, z1, z2, z3, z4, z5, ()) mode scale sizes consts scales hn m (j + 1) (acc ++ [(fInstr (b, s)).1]) (fInstr (b, s)).2.1 (fInstr (b, s)).2.2 (by omega) (by simp; omega) (fo_instr.bl hb s)
theorem d_tiers (z p : Zf) (N i : Int) {n : Nat} (hn : n ≤ 65535) : ∀ (m j : Nat) (acc : List (Int × Int)) (b : List Int) (s : Bool), j + m = n → acc.length ≤ j → Bl b →
    itr R20_6 (m + 1) (z, (b, s, ()), p, acc, N, i, (n : Int), (j : Int), ()) = some (z, ((repS fTier m acc (b, s)).2.1, (repS fTier m acc (b, s)).2.2, ()), p, (repS fTier m acc (b, s)).1, N, i, ())
  | 0, j, acc, b, s, hj, ha, hb => by
    obtain ⟨z0, z1, z2, z3, z4, z5, ⟨⟩⟩ := z
    obtain ⟨p0, p1, p2, p3, p4, p5, ⟨⟩⟩ := p
    refine itr_out ?_
    unfold R20_6 Q20_6
    simp only []
    rw [bif_f (decide_eq_false (by omega))]
    rfl
  | m + 1, j, acc, b, s, hj, ha, hb => by
    obtain ⟨z0, z1, z2, z3, z4, z5, ⟨⟩⟩ := z
    obtain ⟨p0, p1, p2, p3, p4, p5, ⟨⟩⟩ := p
    have hs : R20_6 ((z0, z1, z2, z3, z4, z5, ()), (b, s, ()), (p0, p1, p2, p3, p4, p5, ()), acc, N, i, (n : Int), (j : Int), ()) = some (.inl ((z0, z1, z2, z3, z4, z5, ()), ((fTier (b, s)).2.1, (fTier (b, s)).2.2, ()), (p0, p1, p2, p3, p4, p5, ()), acc ++ [(fTier (b, s)).1], N, i, (n : Int), ((j + 1 : Nat) : Int), ())) := by
      unfold R20_6 Q20_6
      simp only []
      rw [bif_t (decide_eq_true (by omega))]
      rw [show (8 : Int) = ((8 : Nat) : Int) from rfl, eTake hb s (by omega)]
      simp only [fl1, Option.bind_some]
      rw [eTake (hb.tk s 8) (tkS 8 (b, s)).2.2 (by omega)]
      simp only [fl1, Option.bind_some]
      rw [bif_t (decide_eq_true (by omega))]
      simp only [Option.bind_some]
      rw [wsi (n := (j : Int) + 1) (by omega)]
      rfl
    rw [itr_in hs]
    exact d_tiers (z0, z1, z2, z3, z4, z5, ()) (p0, p1, p2, p3, p4, p5, ()) N i hn m (j + 1) (acc ++ [(fTier (b, s)).1]) (fTier (b, s)).2.1 (fTier (b, s)).2.2 (by omega) (by simp; omega) (fo_tier.bl hb s)
theorem ctS_in {b : List Int} (hb : Bs b) (s : Bool) {k each : Nat} (hk : k ≤ 2) : 0 ≤ (ctS k each (b, s)).1 ∧ (ctS k each (b, s)).1 ≤ 65535 := by
  have := tkS_in hb s hk
  unfold ctS
  cases decide ((tkS k (b, s)).1 * (each : Int) > ((tkS k (b, s)).2.1.length : Int)) with
  | true => exact ⟨Int.le_refl _, by show (0 : Int) ≤ 65535; omega⟩
  | false => exact this
theorem Bl.ct {b : List Int} (h : Bl b) (s : Bool) (k each : Nat) : Bl (ctS k each (b, s)).2.1 := by
  unfold ctS
  cases decide ((tkS k (b, s)).1 * (each : Int) > ((tkS k (b, s)).2.1.length : Int)) with
  | true => exact h.tk s k
  | false => exact h.tk s k
theorem d_scales (z : Zf) (mode scale : Int) (sizes : List Int) (consts : List (Int × Int)) (code : List (Int × Int × Int)) {n : Nat} (hn : n ≤ 65535) : ∀ (m j : Nat) (acc : List (List (Int × Int))) (b : List Int) (s : Bool), j + m = n → acc.length ≤ j → Bl b →
    itr R20_4 (m + 1) (z, (b, s, ()), (mode, scale, sizes, consts, acc, code, ()), (n : Int), (j : Int), ()) = some (z, ((repS fTiers m acc (b, s)).2.1, (repS fTiers m acc (b, s)).2.2, ()), (mode, scale, sizes, consts, (repS fTiers m acc (b, s)).1, code, ()), ())
  | 0, j, acc, b, s, hj, ha, hb => by
    obtain ⟨z0, z1, z2, z3, z4, z5, ⟨⟩⟩ := z
    refine itr_out ?_
    unfold R20_4 Q20_4
    simp only []
    rw [bif_f (decide_eq_false (by omega))]
    rfl
  | m + 1, j, acc, b, s, hj, ha, hb => by
    obtain ⟨z0, z1, z2, z3, z4, z5, ⟨⟩⟩ := z
    have hs : R20_4 ((z0, z1, z2, z3, z4, z5, ()), (b, s, ()), (mode, scale, sizes, consts, acc, code, ()), (n : Int), (j : Int), ()) = some (.inl ((z0, z1, z2, z3, z4, z5, ()), ((fTiers (b, s)).2.1, (fTiers (b, s)).2.2, ()), (mode, scale, sizes, consts, acc ++ [(fTiers (b, s)).1], code, ()), (n : Int), ((j + 1 : Nat) : Int), ())) := by
      have p1 : N40 ((b, s, ()), 1, 16, ()) = some (fl1 (ctS 1 16 (b, s))) := eCount hb s (k := 1) (each := 16) (by omega) (by omega)
      have hc := ctS_in hb.1 s (k := 1) (each := 16) (by omega)
      have p2 := itrs_of (d_tiers (z0, z1, z2, z3, z4, z5, ()) (mode, scale, sizes, consts, acc, code, ()) (n : Int) (j : Int) (n := (ctS 1 16 (b, s)).1.toNat) (by omega) (ctS 1 16 (b, s)).1.toNat 0 [] (ctS 1 16 (b, s)).2.1 (ctS 1 16 (b, s)).2.2 (by omega) (Nat.le_refl _) (hb.ct s 1 16)) (by omega)
      rw [show (((ctS 1 16 (b, s)).1.toNat : Nat) : Int) = (ctS 1 16 (b, s)).1 from by omega, show ((0 : Nat) : Int) = 0 from rfl] at p2
      unfold R20_4 Q20_4
      simp only []
      rw [bif_t (decide_eq_true (by omega)), p1]
      simp only [fl1, Option.bind_some]
      rw [p2]
      simp only [Option.bind_some]
      rw [bif_t (decide_eq_true (by omega))]
      simp only [Option.bind_some]
      rw [wsi (n := (j : Int) + 1) (by omega)]
      rfl
    rw [itr_in hs]
    exact d_scales (z0, z1, z2, z3, z4, z5, ()) mode scale sizes consts code hn m (j + 1) (acc ++ [(fTiers (b, s)).1]) (fTiers (b, s)).2.1 (fTiers (b, s)).2.2 (by omega) (by simp; omega) (fo_tiers.bl hb s)
end Go.Proofs.YtaalnjfmcjdimaaGreat.E
/-
  The program's decoder, whole: it answers what the parser answers. No condition but the sizes that any machine's memory has.
-/
namespace Go.Proofs.YtaalnjfmcjdimaaGreat.E
open Go
set_option linter.unusedVariables false
set_option maxRecDepth 100000
def fMany {α : Type} (k each : Nat) (f : Sg → α × Sg) : Sg → List α × Sg := bindS (ctS k each) fun n => repS f n.toNat []
def fPrg : Sg → Prg × Sg :=
  bindS (tkS 1) fun mode => bindS (tkS 1) fun scale => bindS (fMany 1 8 fSize) fun sizes => bindS (fMany 2 16 fWide) fun consts => bindS (fMany 2 1 fTiers) fun scales => bindS (fMany 2 5 fInstr) fun code => retS (sw64 mode, sw64 scale, sizes, consts, scales, code)
theorem takes_size : Takes 8 pSize := takes_bind (takes_pnum 8) fun x => takes_ret (sw64 x)
theorem takes_wide : Takes 16 pWide := takes_bind (takes_pnum 8) fun lo => takes_bind (takes_pnum 8) fun hi => takes_ret (sw64 hi, lo)
theorem takes_tiers : Takes 1 pTiers := takes_mono (takes_bind (n := 0) (takes_pnum 1) fun n => takes_mono (takes_rep takes_tier n.toNat) (Nat.zero_le _)) (Nat.le_refl _)
theorem takes_instr : Takes 5 pInstr := takes_bind (takes_pnum 1) fun a => takes_bind (takes_pnum 2) fun b => takes_bind (takes_pnum 2) fun c => takes_ret (sw64 a, sw64 b, sw64 c)
theorem fo_prg : Fo fPrg pPrg :=
  fo_bind (fo_tk 1) fun mode => fo_bind (fo_tk 1) fun scale => fo_bind (fo_count fo_size takes_size) fun sizes => fo_bind (fo_count fo_wide takes_wide) fun consts => fo_bind (fo_count fo_tiers takes_tiers) fun scales => fo_bind (fo_count fo_instr takes_instr) fun code => fo_ret (sw64 mode, sw64 scale, sizes, consts, scales, code)
def zeroP : Prg := (0, 0, [], [], [], [])
def magic (b : List Int) : Bool := decide (b.take 4 = [79, 67, 84, 49])
def decans (b : List Int) : Prg × Int × Unit :=
  bif magic b then (match pPrg (b.drop 4) with
    | some (p, []) => bif chk p != 0 then (zeroP, 160, ()) else (p, 0, ())
    | _ => (zeroP, 160, ()))
  else (zeroP, 160, ())
theorem byte_eq {x : Int} (h : Byte x) {k : Nat} (hk : k ≤ 255) : (UInt8.ofNat x.toNat == UInt8.ofNat k) = decide (x = (k : Int)) := by
  unfold Byte at h
  obtain ⟨X, rfl⟩ := Int.eq_ofNat_of_zero_le h.1
  rw [Int.toNat_natCast, Bool.eq_iff_iff, beq_iff_eq, decide_eq_true_eq]
  constructor
  · intro e
    have := congrArg UInt8.toNat e
    simp only [UInt8.toNat_ofNat'] at this
    omega
  · intro e
    have : X = k := by omega
    rw [this]
theorem magic_eq {b : List Int} (hb : Bs b) (hl : 4 ≤ b.length) : (ByteArray.toList { data := List.toArray (List.map (fun n => UInt8.ofNat (Int.toNat n)) (List.take 4 (List.drop 0 b))) } == ByteArray.toList { data := #[79, 67, 84, 49] }) = magic b := by
  match b, hl with
  | x0 :: x1 :: x2 :: x3 :: r, _ =>
    have h0 := byte_eq (hb x0 (by simp)) (k := 79) (by omega)
    have h1 := byte_eq (hb x1 (by simp)) (k := 67) (by omega)
    have h2 := byte_eq (hb x2 (by simp)) (k := 84) (by omega)
    have h3 := byte_eq (hb x3 (by simp)) (k := 49) (by omega)
    rw [ByteArray.toList_eq, ByteArray.toList_eq]
    show ([UInt8.ofNat x0.toNat, UInt8.ofNat x1.toNat, UInt8.ofNat x2.toNat, UInt8.ofNat x3.toNat] == [UInt8.ofNat 79, UInt8.ofNat 67, UInt8.ofNat 84, UInt8.ofNat 49]) = _
    simp only [List.cons_beq_cons, h0, h1, h2, h3]
    unfold magic
    rw [Bool.eq_iff_iff]
    simp
theorem eTake1 {b : List Int} (hb : Bl b) (s : Bool) : N39 ((b, s, ()), 1, ()) = some (fl1 (tkS 1 (b, s))) := eTake hb s (k := 1) (by omega)
theorem eCount8 {b : List Int} (hb : Bl b) (s : Bool) : N40 ((b, s, ()), 1, 8, ()) = some (fl1 (ctS 1 8 (b, s))) := eCount hb s (k := 1) (each := 8) (by omega) (by omega)
theorem eCount16 {b : List Int} (hb : Bl b) (s : Bool) : N40 ((b, s, ()), 2, 16, ()) = some (fl1 (ctS 2 16 (b, s))) := eCount hb s (k := 2) (each := 16) (by omega) (by omega)
theorem eCount1 {b : List Int} (hb : Bl b) (s : Bool) : N40 ((b, s, ()), 2, 1, ()) = some (fl1 (ctS 2 1 (b, s))) := eCount hb s (k := 2) (each := 1) (by omega) (by omega)
theorem eCount5 {b : List Int} (hb : Bl b) (s : Bool) : N40 ((b, s, ()), 2, 5, ()) = some (fl1 (ctS 2 5 (b, s))) := eCount hb s (k := 2) (each := 5) (by omega) (by omega)
theorem nat_of {x : Int} (h : 0 ≤ x) : ((x.toNat : Nat) : Int) = x := by omega
theorem bl_rep {α : Type} {f : Sg → α × Sg} {p : Ps α} (h : Fo f p) {b : List Int} (hb : Bl b) (s : Bool) (n : Nat) : Bl (repS f n [] (b, s)).2.1 := (fo_rep h n).bl hb s
theorem repS_all {α : Type} {f : Sg → α × Sg} {p : Ps α} (hf : Fo f p) {A : α → Prop} (h : ∀ b s, Bs b → A (f (b, s)).1) : ∀ (n : Nat) (acc : List α) (b : List Int) (s : Bool), Bs b → (∀ x ∈ acc, A x) → ∀ x ∈ (repS f n acc (b, s)).1, A x
  | 0, acc, b, s, hb, ha => ha
  | n + 1, acc, b, s, hb, ha => repS_all hf h n (acc ++ [(f (b, s)).1]) (f (b, s)).2.1 (f (b, s)).2.2 (hf.keep b s hb).1 fun x hx => by
    rcases List.mem_append.1 hx with k | k
    · exact ha x k
    · rw [List.mem_singleton.1 k]; exact h b s hb
theorem tiers_small (b : List Int) (s : Bool) (hb : Bs b) : (fTiers (b, s)).1.length ≤ 140737488355328 := by
  have := ctS_in hb s (k := 1) (each := 16) (by omega)
  unfold fTiers bindS
  rw [repS_len]
  simp only [List.length_nil]
  omega
end Go.Proofs.YtaalnjfmcjdimaaGreat.E
/-
  The program's decoder answers what the parser answers. No condition but the sizes that any machine's memory has.
-/
namespace Go.Proofs.YtaalnjfmcjdimaaGreat.E
open Go
set_option linter.unusedVariables false
set_option maxRecDepth 100000
theorem eDecode {b : List Int} (hb : Bl b) : N20 (b, ()) = some (decans b) := by
  unfold N20 M20 decans
  simp only []
  by_cases h4 : b.length < 4
  · rw [bif_t (decide_eq_true (by omega))]
    have : magic b = false := by
      unfold magic
      rw [decide_eq_false_iff_not]
      intro e
      have := congrArg List.length e
      simp at this
      omega
    rw [this]
    rfl
  rw [bif_f (decide_eq_false (by omega)), bif_t (show (true && decide ((4 : Int) ≤ (b.length : Int))) = true from by rw [Bool.true_and]; exact decide_eq_true (by omega))]
  simp only [Option.bind_some]
  rw [magic_eq hb.1 (by omega)]
  cases magic b with
  | false => rfl
  | true =>
  simp only [Bool.not_true, cond_false, cond_true]
  rw [bif_t (show (true && decide ((4 : Int) ≤ (b.length : Int)) && decide ((b.length : Int) ≤ (b.length : Int))) = true from by rw [Bool.true_and, decide_eq_true (show (4 : Int) ≤ (b.length : Int) by omega), decide_eq_true (Int.le_refl _)]; rfl)]
  simp only [Option.bind_some]
  have hd : List.take (Int.toNat (b.length : Int) - 4) (List.drop 4 b) = b.drop 4 := by
    rw [Int.toNat_natCast]
    exact List.take_of_length_le (by rw [List.length_drop]; exact Nat.le_refl _)
  rw [hd]
  have hc : Bl (b.drop 4) := ⟨hb.1.drop 4, by have := hb.2; simp; omega⟩
  generalize b.drop 4 = c at *
  clear hd h4 hb
  have F := fo_prg
  -- one reader after the other
  rw [eTake1 hc false]
  have h1 := hc.tk false 1
  generalize e1 : tkS 1 (c, false) = t1 at *
  obtain ⟨v1, c1, s1⟩ := t1
  simp only [fl1, Option.bind_some] at h1 ⊢
  rw [eTake1 h1 s1]
  have h2 := h1.tk s1 1
  generalize e2 : tkS 1 (c1, s1) = t2 at *
  obtain ⟨v2, c2, s2⟩ := t2
  simp only [fl1, Option.bind_some] at h2 ⊢
  rw [eCount8 h2 s2]
  have h3 := h2.ct s2 1 8
  have n3 := ctS_in h2.1 s2 (k := 1) (each := 8) (by omega)
  generalize e3 : ctS 1 8 (c2, s2) = t3 at *
  obtain ⟨v3, c3, s3⟩ := t3
  simp only [fl1, Option.bind_some] at h3 n3 ⊢
  have L0 := itrs_of (d_sizes (0, 0, [], [], [], [], ()) (sw64 v1) (sw64 v2) [] [] [] (n := v3.toNat) (by omega) v3.toNat 0 [] c3 s3 (by omega) (Nat.le_refl _) h3) (by omega)
  rw [nat_of n3.1] at L0
  have L0 : itrs R20_0 ((0, 0, [], [], [], [], ()), (c3, s3, ()), (IntKind.wrap .i64 v1, IntKind.wrap .i64 v2, [], [], [], [], ()), v3, 0, ()) = _ := L0
  rw [L0]
  have h4 := bl_rep fo_size h3 s3 v3.toNat
  have l4 := repS_len fSize v3.toNat [] (c3, s3)
  generalize e4 : repS fSize v3.toNat [] (c3, s3) = t4 at *
  obtain ⟨sizes, c4, s4⟩ := t4
  simp only [Option.bind_some] at h4 l4 ⊢
  rw [eCount16 h4 s4]
  have h5 := h4.ct s4 2 16
  have n5 := ctS_in h4.1 s4 (k := 2) (each := 16) (by omega)
  generalize e5 : ctS 2 16 (c4, s4) = t5 at *
  obtain ⟨v5, c5, s5⟩ := t5
  simp only [fl1, Option.bind_some] at h5 n5 ⊢
  have L2 := itrs_of (d_consts (0, 0, [], [], [], [], ()) (sw64 v1) (sw64 v2) sizes [] [] (n := v5.toNat) (by omega) v5.toNat 0 [] c5 s5 (by omega) (Nat.le_refl _) h5) (by omega)
  rw [nat_of n5.1] at L2
  have L2 : itrs R20_2 ((0, 0, [], [], [], [], ()), (c5, s5, ()), (sw64 v1, sw64 v2, sizes, [], [], [], ()), v5, 0, ()) = _ := L2
  rw [L2]
  have h6 := bl_rep fo_wide h5 s5 v5.toNat
  have l6 := repS_len fWide v5.toNat [] (c5, s5)
  generalize e6 : repS fWide v5.toNat [] (c5, s5) = t6 at *
  obtain ⟨consts, c6, s6⟩ := t6
  simp only [Option.bind_some] at h6 l6 ⊢
  rw [eCount1 h6 s6]
  have h7 := h6.ct s6 2 1
  have n7 := ctS_in h6.1 s6 (k := 2) (each := 1) (by omega)
  generalize e7 : ctS 2 1 (c6, s6) = t7 at *
  obtain ⟨v7, c7, s7⟩ := t7
  simp only [fl1, Option.bind_some] at h7 n7 ⊢
  have L4 := itrs_of (d_scales (0, 0, [], [], [], [], ()) (sw64 v1) (sw64 v2) sizes consts [] (n := v7.toNat) (by omega) v7.toNat 0 [] c7 s7 (by omega) (Nat.le_refl _) h7) (by omega)
  rw [nat_of n7.1] at L4
  have L4 : itrs R20_4 ((0, 0, [], [], [], [], ()), (c7, s7, ()), (sw64 v1, sw64 v2, sizes, consts, [], [], ()), v7, 0, ()) = _ := L4
  rw [L4]
  have h8 := bl_rep fo_tiers h7 s7 v7.toNat
  have l8 := repS_len fTiers v7.toNat [] (c7, s7)
  have a8 := repS_all (A := fun t => t.length ≤ 140737488355328) fo_tiers tiers_small v7.toNat [] c7 s7 h7.1 (fun x hx => by cases hx)
  generalize e8 : repS fTiers v7.toNat [] (c7, s7) = t8 at *
  obtain ⟨scales, c8, s8⟩ := t8
  simp only [Option.bind_some] at h8 l8 a8 ⊢
  rw [eCount5 h8 s8]
  have h9 := h8.ct s8 2 5
  have n9 := ctS_in h8.1 s8 (k := 2) (each := 5) (by omega)
  generalize e9 : ctS 2 5 (c8, s8) = t9 at *
  obtain ⟨v9, c9, s9⟩ := t9
  simp only [fl1, Option.bind_some] at h9 n9 ⊢
  have L8 := itrs_of (d_code (0, 0, [], [], [], [], ()) (sw64 v1) (sw64 v2) sizes consts scales (n := v9.toNat) (by omega) v9.toNat 0 [] c9 s9 (by omega) (Nat.le_refl _) h9) (by omega)
  rw [nat_of n9.1] at L8
  have L8 : itrs R20_8 ((0, 0, [], [], [], [], ()), (c9, s9, ()), (sw64 v1, sw64 v2, sizes, consts, scales, [], ()), v9, 0, ()) = _ := L8
  rw [L8]
  have l10 := repS_len fInstr v9.toNat [] (c9, s9)
  generalize e10 : repS fInstr v9.toNat [] (c9, s9) = t10 at *
  obtain ⟨code, c10, s10⟩ := t10
  simp only [Option.bind_some] at l10 ⊢
  have eF : fPrg (c, false) = ((sw64 v1, sw64 v2, sizes, consts, scales, code), (c10, s10)) := by
    simp only [fPrg, fMany, bindS, retS, e1, e2, e3, e4, e5, e6, e7, e8, e9, e10]
  have hs : Small (sw64 v1, sw64 v2, sizes, consts, scales, code) := ⟨by simp only [List.length_nil] at l4; simp only; omega, by simp only [List.length_nil] at l6; simp only; omega, by simp only [List.length_nil] at l8; simp only; omega, by simp only [List.length_nil] at l10; simp only; omega, a8⟩
  cases hp : pPrg c with
  | none =>
    have := F.bad c hc.1 hp
    rw [eF] at this
    have : s10 = true := this
    subst this
    rfl
  | some x =>
    obtain ⟨q, l⟩ := x
    have := F.ok c q l hc.1 hp
    rw [eF] at this
    injection this with k1 k2
    injection k2 with k2 k3
    subst k1 k2 k3
    simp only [cond_false]
    cases c10 with
    | nil =>
      rw [bif_f (show decide ((([] : List Int).length : Int) > 0) = false from rfl), echeck hs]
      simp only [Option.bind_some]
      cases chk (sw64 v1, sw64 v2, sizes, consts, scales, code) != 0 <;> rfl
    | cons y r =>
      rw [bif_t (decide_eq_true (by simp))]
      rfl
end Go.Proofs.YtaalnjfmcjdimaaGreat.E
/-
  The reference's reader of bytes, told beside the parser. No condition but the sizes that any machine's memory has.
-/
namespace Go.Proofs.YtaalnjfmcjdimaaGreat.E
open Go
set_option linter.unusedVariables false
set_option maxRecDepth 100000
def nkS (k : Nat) (st : Sg) : Int × Sg := bif st.2 then (0, st) else tkS k st
theorem fo_nk (k : Nat) : Fo (nkS k) (pnum k) := by
  have h := fo_tk k
  refine ⟨fun b s hb => ?_, fun b hb => rfl, fun b v l hb e => h.ok b v l hb e, fun b hb e => h.bad b hb e⟩
  cases s with
  | true => exact ⟨hb, Nat.le_refl _⟩
  | false => exact h.keep b false hb
def repN {α : Type} (f : Sg → α × Sg) : Nat → List α → Sg → List α × Sg
  | 0, acc, st => (acc, st)
  | n + 1, acc, st => bif st.2 then (acc, st) else repN f n (acc ++ [(f st).1]) (f st).2
theorem repN_true {α : Type} (f : Sg → α × Sg) (n : Nat) (acc : List α) (b : List Int) : repN f n acc (b, true) = (acc, (b, true)) := by cases n <;> rfl
theorem repN_keep {α : Type} {f : Sg → α × Sg} {p : Ps α} (h : Fo f p) : ∀ (n : Nat) (acc : List α) (b : List Int) (s : Bool), Bs b → Bs (repN f n acc (b, s)).2.1 ∧ (repN f n acc (b, s)).2.1.length ≤ b.length
  | 0, acc, b, s, hb => ⟨hb, Nat.le_refl _⟩
  | n + 1, acc, b, true, hb => ⟨hb, Nat.le_refl _⟩
  | n + 1, acc, b, false, hb => by
    obtain ⟨h1, h2⟩ := h.keep b false hb
    obtain ⟨h3, h4⟩ := repN_keep h n (acc ++ [(f (b, false)).1]) (f (b, false)).2.1 (f (b, false)).2.2 h1
    exact ⟨h3, Nat.le_trans h4 h2⟩
theorem repN_ok {α : Type} {f : Sg → α × Sg} {p : Ps α} (h : Fo f p) : ∀ (n : Nat) (acc : List α) (b : List Int), Bs b →
    match rep p n b with
    | some (r, l) => repN f n acc (b, false) = (acc ++ r, (l, false))
    | none => (repN f n acc (b, false)).2.2 = true
  | 0, acc, b, hb => by
    show repN f 0 acc (b, false) = (acc ++ [], (b, false))
    rw [List.append_nil]
    rfl
  | n + 1, acc, b, hb => by
    have ih := fun acc l (hl : Bs l) => repN_ok h n acc l hl
    have e : repN f (n + 1) acc (b, false) = repN f n (acc ++ [(f (b, false)).1]) (f (b, false)).2 := rfl
    rw [e]
    unfold rep Ps.bind
    cases hp : p b with
    | none =>
      have h1 := h.bad b hb hp
      simp only
      rw [show (f (b, false)).2 = ((f (b, false)).2.1, true) from Prod.ext rfl h1, repN_true]
    | some x =>
      obtain ⟨a, l⟩ := x
      have h1 := h.ok b a l hb hp
      have hl : Bs l := by have := (h.keep b false hb).1; rw [h1] at this; exact this
      rw [h1]
      have := ih (acc ++ [a]) l hl
      simp only
      cases hr : rep p n l with
      | none => rw [hr] at this; exact this
      | some y =>
        obtain ⟨r, l'⟩ := y
        rw [hr] at this
        simp only [Ps.ret] at this ⊢
        rw [this]
        simp
theorem fo_repN {α : Type} {f : Sg → α × Sg} {p : Ps α} (h : Fo f p) (n : Nat) : Fo (repN f n []) (rep p n) := by
  refine ⟨fun b s hb => repN_keep h n [] b s hb, fun b hb => by rw [repN_true], fun b v l hb e => ?_, fun b hb e => ?_⟩
  · have := repN_ok h n [] b hb
    rw [e] at this
    simpa using this
  · have := repN_ok h n [] b hb
    rw [e] at this
    exact this
def rst (B : List Int) (x : Sg) : List Int × Int × Bool × Unit := (B, ((B.length - x.1.length : Nat) : Int), x.2, ())
def Suf (B l : List Int) : Prop := ∃ k, k ≤ B.length ∧ l = B.drop k
theorem Suf.bl {B l : List Int} (h : Suf B l) (hB : Bl B) : Bl l := by
  obtain ⟨k, h1, rfl⟩ := h
  refine ⟨hB.1.drop k, ?_⟩
  have := hB.2
  rw [List.length_drop]
  omega
theorem Suf.nk {B l : List Int} (h : Suf B l) (s : Bool) (k : Nat) : Suf B (nkS k (l, s)).2.1 := by
  obtain ⟨m, h1, rfl⟩ := h
  unfold nkS tkS
  cases s with
  | true => exact ⟨m, h1, rfl⟩
  | false =>
    simp only [cond_false]
    cases hd : decide ((B.drop m).length < k) with
    | true => exact ⟨m, h1, rfl⟩
    | false =>
      have := of_decide_eq_false hd
      rw [List.length_drop] at this
      exact ⟨m + k, by omega, by rw [cond_false, List.drop_drop]⟩
theorem rnum_loop {B : List Int} (hB : Bl B) {at_ k : Nat} (hk : k ≤ 8) (hl : at_ + k ≤ B.length) : ∀ (m : Nat), m ≤ k →
    itr R26_0 (m + 1) ((B, (at_ : Int), false, ()), (k : Int), num (((B.drop at_).take k).drop m), (m : Int) - 1, ()) = some ((B, (at_ : Int), false, ()), (k : Int), num ((B.drop at_).take k), ())
  | 0, _ => by
    refine itr_out ?_
    unfold R26_0 Q26_0
    simp only []
    rw [bif_f (decide_eq_false (by omega)), List.drop_zero]
  | m + 1, hm => by
    have hbig := hB.2
    have hlen : ((B.drop at_).take k).length = k := by rw [List.length_take, List.length_drop]; omega
    have hmk : m < ((B.drop at_).take k).length := by omega
    have hbm : B[at_ + m] = ((B.drop at_).take k)[m] := by simp
    have hx := hB.1 B[at_ + m] (List.getElem_mem (by omega))
    unfold Byte at hx
    obtain ⟨n0, n1⟩ := num_in (((B.drop at_).take k).drop (m + 1)) fun y hy => hB.1 y (List.mem_of_mem_drop (List.mem_of_mem_take (List.mem_of_mem_drop hy)))
    rw [List.length_drop, hlen] at n1
    have hp := pow256 (m := k - (m + 1)) (by omega)
    have hs : R26_0 ((B, (at_ : Int), false, ()), (k : Int), num (((B.drop at_).take k).drop (m + 1)), ((m + 1 : Nat) : Int) - 1, ()) = some (.inl ((B, (at_ : Int), false, ()), (k : Int), num (((B.drop at_).take k).drop m), (m : Int) - 1, ())) := by
      unfold R26_0 Q26_0
      simp only []
      rw [show ((m + 1 : Nat) : Int) - 1 = (m : Int) from by omega, bif_t (decide_eq_true (by omega)), wsi (n := (at_ : Int) + (m : Int)) (by omega), show (at_ : Int) + (m : Int) = ((at_ + m : Nat) : Int) from by omega, at_get (show at_ + m < B.length by omega)]
      simp only [Option.bind_some]
      rw [wui (n := num (((B.drop at_).take k).drop (m + 1)) * 256) (by omega), wui (n := B[at_ + m]) (by omega), wui (by omega), wsi (by omega), List.drop_eq_getElem_cons hmk]
      simp only [num]
      rw [← hbm, show num (((B.drop at_).take k).drop (m + 1)) * 256 + B[at_ + m] = B[at_ + m] + 256 * num (((B.drop at_).take k).drop (m + 1)) from by omega]
    rw [itr_in hs]
    exact rnum_loop hB hk hl m (by omega)
theorem rNumber {B l : List Int} (hB : Bl B) (hl : Suf B l) (s : Bool) {k : Nat} (hk : 1 ≤ k ∧ k ≤ 8) : N26 (rst B (l, s), (k : Int), ()) = some ((nkS k (l, s)).1, rst B (nkS k (l, s)).2, ()) := by
  have hbig := hB.2
  obtain ⟨m, h1, rfl⟩ := hl
  unfold N26 M26 rst nkS
  simp only []
  cases s with
  | true => rfl
  | false =>
    simp only [cond_false]
    have hat : ((B.length - (B.drop m).length : Nat) : Int) = (m : Int) := by rw [List.length_drop]; omega
    rw [hat, wsi (n := (B.length : Int) - (m : Int)) (by omega)]
    unfold tkS
    cases hd : decide ((B.drop m).length < k) with
    | true =>
      have := of_decide_eq_true hd
      rw [List.length_drop] at this
      rw [bif_t (decide_eq_true (by omega))]
      simp only [cond_true]
      rw [hat]
    | false =>
      have := of_decide_eq_false hd
      rw [List.length_drop] at this
      rw [bif_f (decide_eq_false (by omega)), wsi (n := (k : Int) - 1) (by omega)]
      have L := itrs_of (rnum_loop hB hk.2 (show m + k ≤ B.length by omega) k (Nat.le_refl _)) (by omega)
      rw [List.drop_eq_nil_of_le (by rw [List.length_take, List.length_drop]; omega)] at L
      have L : itrs R26_0 ((B, (m : Int), false, ()), (k : Int), 0, (k : Int) - 1, ()) = _ := L
      rw [L]
      simp only [Option.bind_some, cond_false]
      rw [wsi (by omega), show (m : Int) + (k : Int) = ((B.length - ((B.drop m).drop k).length : Nat) : Int) from by rw [List.length_drop, List.length_drop]; omega]
end Go.Proofs.YtaalnjfmcjdimaaGreat.E
/-
  The reference's decoder, its rounds. No condition but the sizes that any machine's memory has.
-/
namespace Go.Proofs.YtaalnjfmcjdimaaGreat.E
open Go
set_option linter.unusedVariables false
set_option maxRecDepth 100000
def gSize : Sg → Int × Sg := bindS (nkS 8) fun x => retS (sw64 x)
def gWide : Sg → (Int × Int) × Sg := bindS (nkS 8) fun lo => bindS (nkS 8) fun hi => retS (sw64 hi, lo)
def gTier : Sg → (Int × Int) × Sg := bindS (nkS 8) fun a => bindS (nkS 8) fun b => retS (sw64 a, sw64 b)
def gTiers : Sg → List (Int × Int) × Sg := bindS (nkS 1) fun n => repN gTier n.toNat []
def gInstr : Sg → (Int × Int × Int) × Sg := bindS (nkS 1) fun a => bindS (nkS 2) fun b => bindS (nkS 2) fun c => retS (sw64 a, sw64 b, sw64 c)
theorem go_size : Fo gSize pSize := fo_bind (fo_nk 8) fun x => fo_ret (sw64 x)
theorem go_wide : Fo gWide pWide := fo_bind (fo_nk 8) fun lo => fo_bind (fo_nk 8) fun hi => fo_ret (sw64 hi, lo)
theorem go_tier : Fo gTier pTier := fo_bind (fo_nk 8) fun a => fo_bind (fo_nk 8) fun b => fo_ret (sw64 a, sw64 b)
theorem go_tiers : Fo gTiers pTiers := fo_bind (fo_nk 1) fun n => fo_repN go_tier n.toNat
theorem go_instr : Fo gInstr pInstr := fo_bind (fo_nk 1) fun a => fo_bind (fo_nk 2) fun b => fo_bind (fo_nk 2) fun c => fo_ret (sw64 a, sw64 b, sw64 c)
theorem nkS_in {b : List Int} (hb : Bs b) (s : Bool) {k : Nat} (hk : k ≤ 2) : 0 ≤ (nkS k (b, s)).1 ∧ (nkS k (b, s)).1 ≤ 65535 := by
  unfold nkS
  cases s with
  | true => exact ⟨Int.le_refl _, by show (0 : Int) ≤ 65535; omega⟩
  | false => exact tkS_in hb false hk
theorem rNum1 {B l : List Int} (hB : Bl B) (hl : Suf B l) (s : Bool) : N26 (rst B (l, s), 1, ()) = some ((nkS 1 (l, s)).1, rst B (nkS 1 (l, s)).2, ()) := rNumber hB hl s (k := 1) (by omega)
theorem rNum2 {B l : List Int} (hB : Bl B) (hl : Suf B l) (s : Bool) : N26 (rst B (l, s), 2, ()) = some ((nkS 2 (l, s)).1, rst B (nkS 2 (l, s)).2, ()) := rNumber hB hl s (k := 2) (by omega)
theorem rNum8 {B l : List Int} (hB : Bl B) (hl : Suf B l) (s : Bool) : N26 (rst B (l, s), 8, ()) = some ((nkS 8 (l, s)).1, rst B (nkS 8 (l, s)).2, ()) := rNumber hB hl s (k := 8) (by omega)
theorem Suf.size {B l : List Int} (h : Suf B l) (s : Bool) : Suf B (gSize (l, s)).2.1 := h.nk s 8
theorem Suf.wide {B l : List Int} (h : Suf B l) (s : Bool) : Suf B (gWide (l, s)).2.1 := (h.nk s 8).nk (nkS 8 (l, s)).2.2 8
theorem Suf.tier {B l : List Int} (h : Suf B l) (s : Bool) : Suf B (gTier (l, s)).2.1 := (h.nk s 8).nk (nkS 8 (l, s)).2.2 8
theorem Suf.instr {B l : List Int} (h : Suf B l) (s : Bool) : Suf B (gInstr (l, s)).2.1 := ((h.nk s 1).nk (nkS 1 (l, s)).2.2 2).nk (nkS 2 (nkS 1 (l, s)).2).2.2 2
theorem suf_rep {α : Type} {f : Sg → α × Sg} {B : List Int} (h : ∀ l s, Suf B l → Suf B (f (l, s)).2.1) : ∀ (n : Nat) (acc : List α) (l : List Int) (s : Bool), Suf B l → Suf B (repN f n acc (l, s)).2.1
  | 0, acc, l, s, hl => hl
  | n + 1, acc, l, true, hl => hl
  | n + 1, acc, l, false, hl => suf_rep h n (acc ++ [(f (l, false)).1]) (f (l, false)).2.1 (f (l, false)).2.2 (h l false hl)
theorem Suf.tiers {B l : List Int} (h : Suf B l) (s : Bool) : Suf B (gTiers (l, s)).2.1 := suf_rep (fun l s h => h.tier s) _ [] _ _ (h.nk s 1)
theorem t_tiers  {B : List Int} (hB : Bl B) {n : Nat} (hn : n ≤ 65535) : ∀ (m j : Nat) (acc : List (Int × Int)) (l : List Int) (s : Bool), j + m = n → acc.length ≤ j → Suf B l →
    itr R27_0 (m + 1) (rst B (l, s), acc, (n : Int), (j : Int), ()) = some (rst B (repN gTier m acc (l, s)).2, (repN gTier m acc (l, s)).1, ())
  | 0, j, acc, l, s, hj, ha, hb => by
    refine itr_out ?_
    unfold R27_0 Q27_0 rst
    simp only []
    rw [bif_f (decide_eq_false (by omega))]
    rfl
  | m + 1, j, acc, l, true, hj, ha, hb => by
    refine itr_out ?_
    unfold R27_0 Q27_0 rst
    simp only []
    rw [bif_t (decide_eq_true (by omega))]
    rfl
  | m + 1, j, acc, l, false, hj, ha, hb => by
    have hs : R27_0 (rst B (l, false), acc, (n : Int), (j : Int), ()) = some (.inl (rst B (gTier (l, false)).2, acc ++ [(gTier (l, false)).1], (n : Int), ((j + 1 : Nat) : Int), ())) := by
      unfold R27_0 Q27_0
      simp only [rst]
      rw [bif_t (decide_eq_true (by omega))]
      simp only [Bool.not_false, cond_true]
      have q0 := rNum8 hB (hb) false
      simp only [rst] at q0
      rw [q0]
      simp only [Option.bind_some]
      have q1 := rNum8 hB ((hb).nk false 8) ((nkS 8 (l, false)).2).2
      simp only [rst] at q1
      rw [q1]
      simp only [Option.bind_some]
      rw [bif_t (decide_eq_true (by omega))]
      simp only [Option.bind_some]
      rw [wsi (n := (j : Int) + 1) (by omega)]
      rfl
    rw [itr_in hs]
    exact t_tiers  hB hn m (j + 1) (acc ++ [(gTier (l, false)).1]) (gTier (l, false)).2.1 (gTier (l, false)).2.2 (by omega) (by simp; omega) (hb.tier false)
theorem rScale {B l : List Int} (hB : Bl B) (hl : Suf B l) (s : Bool) : N27 (rst B (l, s), ()) = some ((gTiers (l, s)).1, rst B (gTiers (l, s)).2, ()) := by
  have hv := nkS_in (hl.bl hB).1 s (k := 1) (by omega)
  unfold N27 M27
  have q := rNum1 hB hl s
  simp only [rst] at q ⊢
  rw [q]
  simp only [Option.bind_some]
  rw [wsi (n := (nkS 1 (l, s)).1) (by omega)]
  have L := itrs_of (t_tiers hB (n := (nkS 1 (l, s)).1.toNat) (by omega) (nkS 1 (l, s)).1.toNat 0 [] (nkS 1 (l, s)).2.1 (nkS 1 (l, s)).2.2 (by omega) (Nat.le_refl _) (hl.nk s 1)) (by omega)
  rw [nat_of hv.1] at L
  simp only [rst] at L
  have L2 : itrs R27_0 ((B, ((B.length - (nkS 1 (l, s)).2.1.length : Nat) : Int), (nkS 1 (l, s)).2.2, ()), [], (nkS 1 (l, s)).1, 0, ()) = _ := L
  rw [L2]
  rfl
theorem t_sizes (bb : List Int) (z : Zf) (mode scale : Int) (consts : List (Int × Int)) (scales : List (List (Int × Int))) (code : List (Int × Int × Int)) {B : List Int} (hB : Bl B) {n : Nat} (hn : n ≤ 65535) : ∀ (m j : Nat) (acc : List Int) (l : List Int) (s : Bool), j + m = n → acc.length ≤ j → Suf B l →
    itr R13_0 (m + 1) (bb, z, rst B (l, s), (mode, scale, acc, consts, scales, code, ()), (n : Int), (j : Int), ()) = some (bb, z, rst B (repN gSize m acc (l, s)).2, (mode, scale, (repN gSize m acc (l, s)).1, consts, scales, code, ()), ())
  | 0, j, acc, l, s, hj, ha, hb => by
    obtain ⟨z0, z1, z2, z3, z4, z5, ⟨⟩⟩ := z
    refine itr_out ?_
    unfold R13_0 Q13_0 rst
    simp only []
    rw [bif_f (decide_eq_false (by omega))]
    rfl
  | m + 1, j, acc, l, true, hj, ha, hb => by
    obtain ⟨z0, z1, z2, z3, z4, z5, ⟨⟩⟩ := z
    refine itr_out ?_
    unfold R13_0 Q13_0 rst
    simp only []
    rw [bif_t (decide_eq_true (by omega))]
    rfl
  | m + 1, j, acc, l, false, hj, ha, hb => by
    obtain ⟨z0, z1, z2, z3, z4, z5, ⟨⟩⟩ := z
    have hs : R13_0 (bb, (z0, z1, z2, z3, z4, z5, ()), rst B (l, false), (mode, scale, acc, consts, scales, code, ()), (n : Int), (j : Int), ()) = some (.inl (bb, (z0, z1, z2, z3, z4, z5, ()), rst B (gSize (l, false)).2, (mode, scale, acc ++ [(gSize (l, false)).1], consts, scales, code, ()), (n : Int), ((j + 1 : Nat) : Int), ())) := by
      unfold R13_0 Q13_0
      simp only [rst]
      rw [bif_t (decide_eq_true (by omega))]
      simp only [Bool.not_false, cond_true]
      have q0 := rNum8 hB (hb) false
      simp only [rst] at q0
      rw [q0]
      simp only [Option.bind_some]
      rw [bif_t (decide_eq_true (by omega))]
      simp only [Option.bind_some]
      rw [wsi (n := (j : Int) + 1) (by omega)]
      rfl
    rw [itr_in hs]
    exact t_sizes bb (z0, z1, z2, z3, z4, z5, ()) mode scale consts scales code hB hn m (j + 1) (acc ++ [(gSize (l, false)).1]) (gSize (l, false)).2.1 (gSize (l, false)).2.2 (by omega) (by simp; omega) (hb.size false)
theorem t_consts (bb : List Int) (z : Zf) (mode scale : Int) (sizes : List Int) (scales : List (List (Int × Int))) (code : List (Int × Int × Int)) {B : List Int} (hB : Bl B) {n : Nat} (hn : n ≤ 65535) : ∀ (m j : Nat) (acc : List (Int × Int)) (l : List Int) (s : Bool), j + m = n → acc.length ≤ j → Suf B l →
    itr R13_2 (m + 1) (bb, z, rst B (l, s), (mode, scale, sizes, acc, scales, code, ()), (n : Int), (j : Int), ()) = some (bb, z, rst B (repN gWide m acc (l, s)).2, (mode, scale, sizes, (repN gWide m acc (l, s)).1, scales, code, ()), ())
  | 0, j, acc, l, s, hj, ha, hb => by
    obtain ⟨z0, z1, z2, z3, z4, z5, ⟨⟩⟩ := z
    refine itr_out ?_
    unfold R13_2 Q13_2 rst
    simp only []
    rw [bif_f (decide_eq_false (by omega))]
    rfl
  | m + 1, j, acc, l, true, hj, ha, hb => by
    obtain ⟨z0, z1, z2, z3, z4, z5, ⟨⟩⟩ := z
    refine itr_out ?_
    unfold R13_2 Q13_2 rst
    simp only []
    rw [bif_t (decide_eq_true (by omega))]
    rfl
  | m + 1, j, acc, l, false, hj, ha, hb => by
    obtain ⟨z0, z1, z2, z3, z4, z5, ⟨⟩⟩ := z
    have hs : R13_2 (bb, (z0, z1, z2, z3, z4, z5, ()), rst B (l, false), (mode, scale, sizes, acc, scales, code, ()), (n : Int), (j : Int), ()) = some (.inl (bb, (z0, z1, z2, z3, z4, z5, ()), rst B (gWide (l, false)).2, (mode, scale, sizes, acc ++ [(gWide (l, false)).1], scales, code, ()), (n : Int), ((j + 1 : Nat) : Int), ())) := by
      unfold R13_2 Q13_2
      simp only [rst]
      rw [bif_t (decide_eq_true (by omega))]
      simp only [Bool.not_false, cond_true]
      have q0 := rNum8 hB (hb) false
      simp only [rst] at q0
      rw [q0]
      simp only [Option.bind_some]
      have q1 := rNum8 hB ((hb).nk false 8) ((nkS 8 (l, false)).2).2
      simp only [rst] at q1
      rw [q1]
      simp only [Option.bind_some]
      rw [bif_t (decide_eq_true (by omega))]
      simp only [Option.bind_some]
      rw [wsi (n := (j : Int) + 1) (by omega)]
      rfl
    rw [itr_in hs]
    exact t_consts bb (z0, z1, z2, z3, z4, z5, ()) mode scale sizes scales code hB hn m (j + 1) (acc ++ [(gWide (l, false)).1]) (gWide (l, false)).2.1 (gWide (l, false)).2.2 (by omega) (by simp; omega) (hb.wide false)
theorem t_scales (bb : List Int) (z : Zf) (mode scale : Int) (sizes : List Int) (consts : List (Int × Int)) (code : List (Int × Int × Int)) {B : List Int} (hB : Bl B) {n : Nat} (hn : n ≤ 65535) : ∀ (m j : Nat) (acc : List (List (Int × Int))) (l : List Int) (s : Bool), j + m = n → acc.length ≤ j → Suf B l →
    itr R13_4 (m + 1) (bb, z, rst B (l, s), (mode, scale, sizes, consts, acc, code, ()), (n : Int), (j : Int), ()) = some (bb, z, rst B (repN gTiers m acc (l, s)).2, (mode, scale, sizes, consts, (repN gTiers m acc (l, s)).1, code, ()), ())
  | 0, j, acc, l, s, hj, ha, hb => by
    obtain ⟨z0, z1, z2, z3, z4, z5, ⟨⟩⟩ := z
    refine itr_out ?_
    unfold R13_4 Q13_4 rst
    simp only []
    rw [bif_f (decide_eq_false (by omega))]
    rfl
  | m + 1, j, acc, l, true, hj, ha, hb => by
    obtain ⟨z0, z1, z2, z3, z4, z5, ⟨⟩⟩ := z
    refine itr_out ?_
    unfold R13_4 Q13_4 rst
    simp only []
    rw [bif_t (decide_eq_true (by omega))]
    rfl
  | m + 1, j, acc, l, false, hj, ha, hb => by
    obtain ⟨z0, z1, z2, z3, z4, z5, ⟨⟩⟩ := z
    have hs : R13_4 (bb, (z0, z1, z2, z3, z4, z5, ()), rst B (l, false), (mode, scale, sizes, consts, acc, code, ()), (n : Int), (j : Int), ()) = some (.inl (bb, (z0, z1, z2, z3, z4, z5, ()), rst B (gTiers (l, false)).2, (mode, scale, sizes, consts, acc ++ [(gTiers (l, false)).1], code, ()), (n : Int), ((j + 1 : Nat) : Int), ())) := by
      unfold R13_4 Q13_4
      simp only [rst]
      rw [bif_t (decide_eq_true (by omega))]
      simp only [Bool.not_false, cond_true]
      have q0 := rScale hB hb false
      simp only [rst] at q0
      rw [q0]
      simp only [Option.bind_some]
      rw [bif_t (decide_eq_true (by omega))]
      simp only [Option.bind_some]
      rw [wsi (n := (j : Int) + 1) (by omega)]
      rfl
    rw [itr_in hs]
    exact t_scales bb (z0, z1, z2, z3, z4, z5, ()) mode scale sizes consts code hB hn m (j + 1) (acc ++ [(gTiers (l, false)).1]) (gTiers (l, false)).2.1 (gTiers (l, false)).2.2 (by omega) (by simp; omega) (hb.tiers false)
theorem t_code (bb : List Int) (z : Zf) (mode scale : Int) (sizes : List Int) (consts : List (Int × Int)) (scales : List (List (Int × Int))) {B : List Int} (hB : Bl B) {n : Nat} (hn : n ≤ 65535) : ∀ (m j : Nat) (acc : List (Int × Int × Int)) (l : List Int) (s : Bool), j + m = n → acc.length ≤ j → Suf B l →
    itr R13_6 (m + 1) (bb, z, rst B (l, s), (mode, scale, sizes, consts, scales, acc, ()), (n : Int), (j : Int), ()) = some (bb, z, rst B (repN gInstr m acc (l, s)).2, (mode, scale, sizes, consts, scales, (repN gInstr m acc (l, s)).1, ()), ())
  | 0, j, acc, l, s, hj, ha, hb => by
    obtain ⟨z0, z1, z2, z3, z4, z5, ⟨⟩⟩ := z
    refine itr_out ?_
    unfold R13_6 Q13_6 rst
    simp only []
    rw [bif_f (decide_eq_false (by omega))]
    rfl
  | m + 1, j, acc, l, true, hj, ha, hb => by
    obtain ⟨z0, z1, z2, z3, z4, z5, ⟨⟩⟩ := z
    refine itr_out ?_
    unfold R13_6 Q13_6 rst
    simp only []
    rw [bif_t (decide_eq_true (by omega))]
    rfl
  | m + 1, j, acc, l, false, hj, ha, hb => by
    obtain ⟨z0, z1, z2, z3, z4, z5, ⟨⟩⟩ := z
    have hs : R13_6 (bb, (z0, z1, z2, z3, z4, z5, ()), rst B (l, false), (mode, scale, sizes, consts, scales, acc, ()), (n : Int), (j : Int), ()) = some (.inl (bb, (z0, z1, z2, z3, z4, z5, ()), rst B (gInstr (l, false)).2, (mode, scale, sizes, consts, scales, acc ++ [(gInstr (l, false)).1], ()), (n : Int), ((j + 1 : Nat) : Int), ())) := by
      unfold R13_6 Q13_6
      simp only [rst]
      rw [bif_t (decide_eq_true (by omega))]
      simp only [Bool.not_false, cond_true]
      have q0 := rNum1 hB (hb) false
      simp only [rst] at q0
      rw [q0]
      simp only [Option.bind_some]
      have q1 := rNum2 hB ((hb).nk false 1) ((nkS 1 (l, false)).2).2
      simp only [rst] at q1
      rw [q1]
      simp only [Option.bind_some]
      have q2 := rNum2 hB (((hb).nk false 1).nk ((nkS 1 (l, false)).2).2 2) ((nkS 2 (nkS 1 (l, false)).2).2).2
      simp only [rst] at q2
      rw [q2]
      simp only [Option.bind_some]
      rw [bif_t (decide_eq_true (by omega))]
      simp only [Option.bind_some]
      rw [wsi (n := (j : Int) + 1) (by omega)]
      rfl
    rw [itr_in hs]
    exact t_code bb (z0, z1, z2, z3, z4, z5, ()) mode scale sizes consts scales hB hn m (j + 1) (acc ++ [(gInstr (l, false)).1]) (gInstr (l, false)).2.1 (gInstr (l, false)).2.2 (by omega) (by simp; omega) (hb.instr false)
end Go.Proofs.YtaalnjfmcjdimaaGreat.E
/-
  The reference's decoder answers what the parser answers. No condition but the sizes that any machine's memory has.
-/
namespace Go.Proofs.YtaalnjfmcjdimaaGreat.E
open Go
set_option linter.unusedVariables false
set_option maxRecDepth 100000
def gMany {α : Type} (k : Nat) (f : Sg → α × Sg) : Sg → List α × Sg := bindS (nkS k) fun n => repN f n.toNat []
def gPrg : Sg → Prg × Sg :=
  bindS (nkS 1) fun mode => bindS (nkS 1) fun scale => bindS (gMany 1 gSize) fun sizes => bindS (gMany 2 gWide) fun consts => bindS (gMany 2 gTiers) fun scales => bindS (gMany 2 gInstr) fun code => retS (sw64 mode, sw64 scale, sizes, consts, scales, code)
theorem go_many {α : Type} {f : Sg → α × Sg} {p : Ps α} (h : Fo f p) (k : Nat) : Fo (gMany k f) (pMany k p) := fo_bind (fo_nk k) fun n => fo_repN h n.toNat
theorem go_prg : Fo gPrg pPrg :=
  fo_bind (fo_nk 1) fun mode => fo_bind (fo_nk 1) fun scale => fo_bind (go_many go_size 1) fun sizes => fo_bind (go_many go_wide 2) fun consts => fo_bind (go_many go_tiers 2) fun scales => fo_bind (go_many go_instr 2) fun code => fo_ret (sw64 mode, sw64 scale, sizes, consts, scales, code)
theorem repN_len {α : Type} (f : Sg → α × Sg) : ∀ (n : Nat) (acc : List α) (st : Sg), (repN f n acc st).1.length ≤ acc.length + n
  | 0, acc, st => by simp [repN]
  | n + 1, acc, (b, true) => by simp [repN]
  | n + 1, acc, (b, false) => by
    have := repN_len f n (acc ++ [(f (b, false)).1]) (f (b, false)).2
    have e : repN f (n + 1) acc (b, false) = repN f n (acc ++ [(f (b, false)).1]) (f (b, false)).2 := rfl
    rw [e]
    simp at this
    omega
theorem repN_all {α : Type} {f : Sg → α × Sg} {p : Ps α} (hf : Fo f p) {A : α → Prop} (h : ∀ b s, Bs b → A (f (b, s)).1) : ∀ (n : Nat) (acc : List α) (b : List Int) (s : Bool), Bs b → (∀ x ∈ acc, A x) → ∀ x ∈ (repN f n acc (b, s)).1, A x
  | 0, acc, b, s, hb, ha => ha
  | n + 1, acc, b, true, hb, ha => ha
  | n + 1, acc, b, false, hb, ha => repN_all hf h n (acc ++ [(f (b, false)).1]) (f (b, false)).2.1 (f (b, false)).2.2 (hf.keep b false hb).1 fun x hx => by
    rcases List.mem_append.1 hx with k | k
    · exact ha x k
    · rw [List.mem_singleton.1 k]; exact h b false hb
theorem gtiers_small (b : List Int) (s : Bool) (hb : Bs b) : (gTiers (b, s)).1.length ≤ 140737488355328 := by
  have := nkS_in hb s (k := 1) (by omega)
  have h2 := repN_len gTier (nkS 1 (b, s)).1.toNat [] (nkS 1 (b, s)).2
  simp only [List.length_nil] at h2
  have e : (gTiers (b, s)).1 = (repN gTier (nkS 1 (b, s)).1.toNat [] (nkS 1 (b, s)).2).1 := rfl
  rw [e]
  omega
theorem nk_cons (x : Int) (r : List Int) : nkS 1 (x :: r, false) = (x, (r, false)) := by
  unfold nkS tkS
  simp [num]
end Go.Proofs.YtaalnjfmcjdimaaGreat.E
/-
  The reference's decoder answers what the parser answers. No condition but the sizes that any machine's memory has.
-/
namespace Go.Proofs.YtaalnjfmcjdimaaGreat.E
open Go
set_option linter.unusedVariables false
set_option maxRecDepth 100000
theorem magic_short {b : List Int} (h : b.length < 4) : magic b = false := by
  unfold magic
  rw [decide_eq_false_iff_not]
  intro e
  have := congrArg List.length e
  simp at this
  omega
theorem dec_no {b : List Int} (h : magic b = false) : decans b = (zeroP, 160, ()) := by unfold decans; rw [h]; rfl
theorem nk_nil : nkS 1 (([] : List Int), false) = (0, ([], true)) := rfl
theorem rDecode {b : List Int} (hb : Bl b) : N13 (b, ()) = some (decans b) := by
  have S0 : Suf b b := ⟨0, Nat.zero_le _, rfl⟩
  have z0 : (0 : Int) = ((b.length - b.length : Nat) : Int) := by omega
  unfold N13 M13
  simp only []
  have q1 := rNum1 hb S0 false
  simp only [rst, Nat.sub_self] at q1
  have q1 : N26 ((b, 0, false, ()), 1, ()) = _ := q1
  rw [q1]
  simp only [Option.bind_some]
  have S1 := S0.nk false 1
  match b, hb with
  | [], hb =>
    rw [nk_nil, dec_no (magic_short (by decide))]
    rfl
  | x0 :: r0, hb =>
  rw [nk_cons] at S1 ⊢
  by_cases k0 : x0 = 79
  rotate_left
  · rw [bif_t (show (x0 != 79) = true from by simpa using k0), dec_no]
    · rfl
    · unfold magic
      rw [decide_eq_false_iff_not]
      intro e
      simp at e
      exact k0 e.1
  subst k0
  simp only [bne_self_eq_false, cond_false]
  have q2 := rNum1 hb S1 false
  simp only [rst] at q2
  rw [q2]
  simp only [Option.bind_some]
  have S2 := S1.nk false 1
  match r0, hb, S1, S2 with
  | [], hb, S1, S2 =>
    rw [nk_nil, dec_no (magic_short (by decide))]
    rfl
  | x1 :: r1, hb, S1, S2 =>
  rw [nk_cons] at S2 ⊢
  by_cases k1 : x1 = 67
  rotate_left
  · rw [bif_t (show (x1 != 67) = true from by simpa using k1), dec_no]
    · rfl
    · unfold magic
      rw [decide_eq_false_iff_not]
      intro e
      simp at e
      exact k1 e.1
  subst k1
  simp only [bne_self_eq_false, cond_false]
  have q3 := rNum1 hb S2 false
  simp only [rst] at q3
  rw [q3]
  simp only [Option.bind_some]
  have S3 := S2.nk false 1
  match r1, hb, S2, S3 with
  | [], hb, S2, S3 =>
    rw [nk_nil, dec_no (magic_short (by decide))]
    rfl
  | x2 :: r2, hb, S2, S3 =>
  rw [nk_cons] at S3 ⊢
  by_cases k2 : x2 = 84
  rotate_left
  · rw [bif_t (show (x2 != 84) = true from by simpa using k2), dec_no]
    · rfl
    · unfold magic
      rw [decide_eq_false_iff_not]
      intro e
      simp at e
      exact k2 e.1
  subst k2
  simp only [bne_self_eq_false, cond_false]
  have q4 := rNum1 hb S3 false
  simp only [rst] at q4
  rw [q4]
  simp only [Option.bind_some]
  have S4 := S3.nk false 1
  match r2, hb, S3, S4 with
  | [], hb, S3, S4 =>
    rw [nk_nil, dec_no (magic_short (by decide))]
    rfl
  | x3 :: c, hb, S3, S4 =>
  rw [nk_cons] at S4 ⊢
  by_cases k3 : x3 = 49
  rotate_left
  · rw [bif_t (show (x3 != 49) = true from by simpa using k3), dec_no]
    · rfl
    · unfold magic
      rw [decide_eq_false_iff_not]
      intro e
      simp at e
      exact k3 e
  subst k3
  simp only [bne_self_eq_false, cond_false]
  have hdec : decans (79 :: 67 :: 84 :: 49 :: c) = (match pPrg c with
    | some (p, []) => bif chk p != 0 then (zeroP, 160, ()) else (p, 0, ())
    | _ => (zeroP, 160, ())) := rfl
  rw [hdec]
  clear hdec q1 q2 q3 q4 S0 S1 S2 S3 z0
  generalize (79 :: 67 :: 84 :: 49 :: c) = B at *
  have hc : Bl c := S4.bl hb
  have F := go_prg
  have p1 := rNum1 hb S4 false
  simp only [rst] at p1
  rw [p1]
  have A1 := S4.nk false 1
  have n1 := nkS_in (S4.bl hb).1 false (k := 1) (by omega)
  generalize e1 : nkS 1 (c, false) = t1 at *
  obtain ⟨v1, c1, s1⟩ := t1
  simp only [Option.bind_some] at A1 n1 ⊢
  have p2 := rNum1 hb A1 s1
  simp only [rst] at p2
  rw [p2]
  have A2 := A1.nk s1 1
  have n2 := nkS_in (A1.bl hb).1 s1 (k := 1) (by omega)
  generalize e2 : nkS 1 (c1, s1) = t2 at *
  obtain ⟨v2, c2, s2⟩ := t2
  simp only [Option.bind_some] at A2 n2 ⊢
  have p3 := rNum1 hb A2 s2
  simp only [rst] at p3
  rw [p3]
  have A3 := A2.nk s2 1
  have n3 := nkS_in (A2.bl hb).1 s2 (k := 1) (by omega)
  generalize e3 : nkS 1 (c2, s2) = t3 at *
  obtain ⟨v3, c3, s3⟩ := t3
  simp only [Option.bind_some] at A3 n3 ⊢
  have L0 := itrs_of (t_sizes B (0, 0, [], [], [], [], ()) (sw64 v1) (sw64 v2) [] [] [] hb (n := v3.toNat) (by omega) v3.toNat 0 [] c3 s3 (by omega) (Nat.le_refl _) A3) (by omega)
  rw [nat_of n3.1] at L0
  simp only [rst] at L0
  have L0 : itrs R13_0 (B, (0, 0, [], [], [], [], ()), (B, ((B.length - c3.length : Nat) : Int), s3, ()), (IntKind.wrap .i64 v1, IntKind.wrap .i64 v2, [], [], [], [], ()), v3, 0, ()) = _ := L0
  rw [wsi (n := v3) (by omega), L0]
  have A4 := suf_rep (f := gSize) (fun l s h => h.size s) v3.toNat [] c3 s3 A3
  have l4 := repN_len gSize v3.toNat [] (c3, s3)
  generalize e4 : repN gSize v3.toNat [] (c3, s3) = t4 at *
  obtain ⟨sizes, c4, s4⟩ := t4
  simp only [Option.bind_some] at A4 l4 ⊢
  have p5 := rNum2 hb A4 s4
  simp only [rst] at p5
  rw [p5]
  have A5 := A4.nk s4 2
  have n5 := nkS_in (A4.bl hb).1 s4 (k := 2) (by omega)
  generalize e5 : nkS 2 (c4, s4) = t5 at *
  obtain ⟨v5, c5, s5⟩ := t5
  simp only [Option.bind_some] at A5 n5 ⊢
  have L2 := itrs_of (t_consts B (0, 0, [], [], [], [], ()) (sw64 v1) (sw64 v2) sizes [] [] hb (n := v5.toNat) (by omega) v5.toNat 0 [] c5 s5 (by omega) (Nat.le_refl _) A5) (by omega)
  rw [nat_of n5.1] at L2
  simp only [rst] at L2
  have L2 : itrs R13_2 (B, (0, 0, [], [], [], [], ()), (B, ((B.length - c5.length : Nat) : Int), s5, ()), (sw64 v1, sw64 v2, sizes, [], [], [], ()), v5, 0, ()) = _ := L2
  rw [wsi (n := v5) (by omega), L2]
  have A6 := suf_rep (f := gWide) (fun l s h => h.wide s) v5.toNat [] c5 s5 A5
  have l6 := repN_len gWide v5.toNat [] (c5, s5)
  generalize e6 : repN gWide v5.toNat [] (c5, s5) = t6 at *
  obtain ⟨consts, c6, s6⟩ := t6
  simp only [Option.bind_some] at A6 l6 ⊢
  have p7 := rNum2 hb A6 s6
  simp only [rst] at p7
  rw [p7]
  have A7 := A6.nk s6 2
  have n7 := nkS_in (A6.bl hb).1 s6 (k := 2) (by omega)
  generalize e7 : nkS 2 (c6, s6) = t7 at *
  obtain ⟨v7, c7, s7⟩ := t7
  simp only [Option.bind_some] at A7 n7 ⊢
  have L4 := itrs_of (t_scales B (0, 0, [], [], [], [], ()) (sw64 v1) (sw64 v2) sizes consts [] hb (n := v7.toNat) (by omega) v7.toNat 0 [] c7 s7 (by omega) (Nat.le_refl _) A7) (by omega)
  rw [nat_of n7.1] at L4
  simp only [rst] at L4
  have L4 : itrs R13_4 (B, (0, 0, [], [], [], [], ()), (B, ((B.length - c7.length : Nat) : Int), s7, ()), (sw64 v1, sw64 v2, sizes, consts, [], [], ()), v7, 0, ()) = _ := L4
  rw [wsi (n := v7) (by omega), L4]
  have A8 := suf_rep (f := gTiers) (fun l s h => h.tiers s) v7.toNat [] c7 s7 A7
  have l8 := repN_len gTiers v7.toNat [] (c7, s7)
  have a8 := repN_all (A := fun t => t.length ≤ 140737488355328) go_tiers gtiers_small v7.toNat [] c7 s7 (A7.bl hb).1 (fun x hx => by cases hx)
  generalize e8 : repN gTiers v7.toNat [] (c7, s7) = t8 at *
  obtain ⟨scales, c8, s8⟩ := t8
  simp only [Option.bind_some] at A8 l8 a8 ⊢
  have p9 := rNum2 hb A8 s8
  simp only [rst] at p9
  rw [p9]
  have A9 := A8.nk s8 2
  have n9 := nkS_in (A8.bl hb).1 s8 (k := 2) (by omega)
  generalize e9 : nkS 2 (c8, s8) = t9 at *
  obtain ⟨v9, c9, s9⟩ := t9
  simp only [Option.bind_some] at A9 n9 ⊢
  have L6 := itrs_of (t_code B (0, 0, [], [], [], [], ()) (sw64 v1) (sw64 v2) sizes consts scales hb (n := v9.toNat) (by omega) v9.toNat 0 [] c9 s9 (by omega) (Nat.le_refl _) A9) (by omega)
  rw [nat_of n9.1] at L6
  simp only [rst] at L6
  have L6 : itrs R13_6 (B, (0, 0, [], [], [], [], ()), (B, ((B.length - c9.length : Nat) : Int), s9, ()), (sw64 v1, sw64 v2, sizes, consts, scales, [], ()), v9, 0, ()) = _ := L6
  rw [wsi (n := v9) (by omega), L6]
  have A10 := suf_rep (f := gInstr) (fun l s h => h.instr s) v9.toNat [] c9 s9 A9
  have l10 := repN_len gInstr v9.toNat [] (c9, s9)
  generalize e10 : repN gInstr v9.toNat [] (c9, s9) = t10 at *
  obtain ⟨code, c10, s10⟩ := t10
  simp only [Option.bind_some] at A10 l10 ⊢
  have eF : gPrg (c, false) = ((sw64 v1, sw64 v2, sizes, consts, scales, code), (c10, s10)) := by
    simp only [gPrg, gMany, bindS, retS, e1, e2, e3, e4, e5, e6, e7, e8, e9, e10]
  have hs : Small (sw64 v1, sw64 v2, sizes, consts, scales, code) := ⟨by simp only [List.length_nil] at l4; simp only; omega, by simp only [List.length_nil] at l6; simp only; omega, by simp only [List.length_nil] at l8; simp only; omega, by simp only [List.length_nil] at l10; simp only; omega, a8⟩
  cases hp : pPrg c with
  | none =>
    have := F.bad c hc.1 hp
    rw [eF] at this
    have : s10 = true := this
    subst this
    rfl
  | some x =>
    obtain ⟨q, l⟩ := x
    have := F.ok c q l hc.1 hp
    rw [eF] at this
    injection this with k1 k2
    injection k2 with k2 k3
    subst k1 k2 k3
    simp only [cond_false]
    obtain ⟨m, m1, m2⟩ := A10
    have hl : c10.length = B.length - m := by rw [m2, List.length_drop]
    cases c10 with
    | nil =>
      rw [bif_f (show ((((B.length - ([] : List Int).length : Nat) : Int)) != (B.length : Int)) = false from by simp), rCheck hs]
      simp only [Option.bind_some]
      cases chk (sw64 v1, sw64 v2, sizes, consts, scales, code) != 0 <;> rfl
    | cons y r =>
      rw [bif_t (show ((((B.length - (y :: r).length : Nat) : Int)) != (B.length : Int)) = true from by simp only [bne_iff_ne, ne_eq]; simp only [List.length_cons] at hl ⊢; omega)]
      rfl
end Go.Proofs.YtaalnjfmcjdimaaGreat.E
/-
  Programs as bytes, there and back: what was written is read again, and what was read is written again. No condition but the fields' own bounds.
-/
namespace Go.Proofs.YtaalnjfmcjdimaaGreat.E
open Go
set_option linter.unusedVariables false
set_option maxRecDepth 100000
/-! ### what lies behind changes nothing -/
/-! ### written, then read -/
def In64 (x : Int) : Prop := -9223372036854775808 ≤ x ∧ x ≤ 9223372036854775807
theorem u64_s64 {x : Int} (h : 0 ≤ x ∧ x ≤ 18446744073709551615) : u64 (sw64 x) = x := by unfold sw64 u64; rw [ws]; omega
structure Wf (p : Prg) : Prop where
  a : ∀ s ∈ p.2.2.1, In64 s
  b : ∀ w ∈ p.2.2.2.1, In64 w.1 ∧ 0 ≤ w.2 ∧ w.2 ≤ 18446744073709551615
  c : ∀ l ∈ p.2.2.2.2.1, ∀ t ∈ l, In64 t.1 ∧ In64 t.2
theorem Wf.los {p : Prg} (h : Wf p) : Los p := fun w hw => (h.b w hw).2
def bodyB (p : Prg) : List Int :=
  [p.1 % 256] ++ ([p.2.1 % 256] ++ ((le 1 (p.2.2.1.length : Int) ++ p.2.2.1.flatMap encSize) ++ ((le 2 (p.2.2.2.1.length : Int) ++ p.2.2.2.1.flatMap encWide) ++ ((le 2 (p.2.2.2.2.1.length : Int) ++ p.2.2.2.2.1.flatMap encTiers) ++ ((le 2 (p.2.2.2.2.2.length : Int) ++ p.2.2.2.2.2.flatMap encInstr) ++ [])))))
theorem encB_body (p : Prg) : encB p = [79, 67, 84, 49] ++ bodyB p := by
  unfold encB headB bodyB
  simp [le]
theorem chk_more {p : Prg} (h : chk p = 0) : (0 ≤ p.1 ∧ p.1 ≤ 4) ∧ (0 ≤ p.2.1 ∧ p.2.1 ≤ 6) ∧ (∀ c ∈ p.2.2.2.2.2, badInstr c = false) := by
  unfold chk at h
  obtain ⟨k1, h⟩ := bif_zero (by decide) h
  obtain ⟨k2, h⟩ := bif_zero (by decide) h
  obtain ⟨k3, h⟩ := bif_zero (by decide) h
  obtain ⟨k4, h⟩ := bif_zero (by decide) h
  obtain ⟨_, h⟩ := bif_zero (by decide) h
  obtain ⟨_, h⟩ := bif_zero (by decide) h
  obtain ⟨_, h⟩ := bif_zero (by decide) h
  obtain ⟨_, h⟩ := bif_zero (by decide) h
  obtain ⟨_, h⟩ := bif_zero (by decide) h
  obtain ⟨_, h⟩ := bif_zero (by decide) h
  obtain ⟨_, h⟩ := bif_zero (by decide) h
  obtain ⟨k5, h⟩ := bif_zero (by decide) h
  have k1 := of_decide_eq_false k1
  have k2 := of_decide_eq_false k2
  have k3 := of_decide_eq_false k3
  have k4 := of_decide_eq_false k4
  refine ⟨by omega, by omega, fun c hc => ?_⟩
  obtain ⟨j, hj, rfl⟩ := List.getElem_of_mem hc
  rw [List.any_eq_false] at k5
  have := k5 j (by rw [List.mem_range'_1]; omega)
  rw [getD_at hj] at this
  simpa using this
/-! ### read, then written -/
def Writes {α : Type} (p : Ps α) (e : α → List Int) : Prop := ∀ l a r, Bs l → p l = some (a, r) → l = e a ++ r
theorem le_num : ∀ (l : List Int), Bs l → le l.length (num l) = l
  | [], _ => rfl
  | x :: l, h => by
    have h1 := h x (by simp)
    unfold Byte at h1
    have ih := le_num l fun y hy => h y (by simp [hy])
    simp only [num, List.length_cons, le]
    rw [show (x + 256 * num l) % 256 = x from by omega, show (x + 256 * num l) / 256 = num l from by omega, ih]
theorem writes_pnum (k : Nat) : ∀ l a r, Bs l → pnum k l = some (a, r) → l = le k a ++ r ∧ Bs r ∧ 0 ≤ a ∧ a < 256 ^ k := by
  intro l a r hb h
  unfold pnum at h
  cases hk : decide (l.length < k) with
  | true => rw [hk] at h; cases h
  | false =>
    rw [hk] at h
    have := of_decide_eq_false hk
    simp only [cond_false, Option.some.injEq, Prod.mk.injEq] at h
    obtain ⟨rfl, rfl⟩ := h
    have ht : Bs (l.take k) := fun x hx => hb x (List.mem_of_mem_take hx)
    have e := le_num (l.take k) ht
    have hn := num_in (l.take k) ht
    have hl : (l.take k).length = k := by rw [List.length_take]; omega
    rw [hl] at e hn
    rw [e, List.take_append_drop]
    exact ⟨rfl, hb.drop k, hn⟩
theorem Bs.tail {l e r : List Int} (h : Bs l) (he : l = e ++ r) : Bs r := fun x hx => h x (by rw [he]; exact List.mem_append_right _ hx)
theorem bind_some {α β : Type} {p : Ps α} {f : α → Ps β} {l : List Int} {b : β} {r : List Int} (h : p.bind f l = some (b, r)) : ∃ a l1, p l = some (a, l1) ∧ f a l1 = some (b, r) := by
  unfold Ps.bind at h
  cases h1 : p l with
  | none => rw [h1] at h; cases h
  | some x =>
    obtain ⟨a, l1⟩ := x
    rw [h1] at h
    exact ⟨a, l1, rfl, h⟩
theorem ret_some {α : Type} {a b : α} {l r : List Int} (h : Ps.ret a l = some (b, r)) : a = b ∧ l = r := by
  unfold Ps.ret at h
  injection h with h
  injection h with h1 h2
  exact ⟨h1, h2⟩
theorem writes_rep {α : Type} {p : Ps α} {e : α → List Int} (h : Writes p e) : ∀ (n : Nat) (l : List Int) (a : List α) (r : List Int), Bs l → rep p n l = some (a, r) → l = a.flatMap e ++ r ∧ a.length = n
  | 0, l, a, r, hb, hr => by
    obtain ⟨rfl, rfl⟩ := ret_some hr
    exact ⟨rfl, rfl⟩
  | n + 1, l, a, r, hb, hr => by
    obtain ⟨x, l1, h1, hr⟩ := bind_some hr
    obtain ⟨y, l2, h2, hr⟩ := bind_some hr
    obtain ⟨rfl, rfl⟩ := ret_some hr
    have e1 := h l x l1 hb h1
    obtain ⟨e2, e3⟩ := writes_rep h n l1 y l2 (hb.tail e1) h2
    rw [List.flatMap_cons, List.append_assoc, ← e2, List.length_cons, e3]
    exact ⟨e1, rfl⟩
theorem writes_many {α : Type} {p : Ps α} {e : α → List Int} (h : Writes p e) (k : Nat) : Writes (pMany k p) fun l => le k (l.length : Int) ++ l.flatMap e := by
  intro l a r hb hr
  obtain ⟨n, l1, h1, hr⟩ := bind_some hr
  obtain ⟨e1, b1, n0, n1⟩ := writes_pnum k l n l1 hb h1
  obtain ⟨e2, e3⟩ := writes_rep h n.toNat l1 a r b1 hr
  simp only
  rw [List.append_assoc, ← e2, e3, show ((n.toNat : Nat) : Int) = n from by omega]
  exact e1
theorem writes_size : Writes pSize encSize := by
  intro l a r hb hr
  obtain ⟨x, l1, h1, hr⟩ := bind_some hr
  obtain ⟨rfl, rfl⟩ := ret_some hr
  obtain ⟨e1, b1, n0, n1⟩ := writes_pnum 8 l x l1 hb h1
  unfold encSize
  rw [u64_s64 (by omega)]
  exact e1
theorem writes_wide : Writes pWide encWide := by
  intro l a r hb hr
  obtain ⟨x, l1, h1, hr⟩ := bind_some hr
  obtain ⟨y, l2, h2, hr⟩ := bind_some hr
  obtain ⟨rfl, rfl⟩ := ret_some hr
  obtain ⟨e1, b1, n0, n1⟩ := writes_pnum 8 l x l1 hb h1
  obtain ⟨e2, b2, m0, m1⟩ := writes_pnum 8 l1 y l2 b1 h2
  unfold encWide
  simp only
  rw [u64_s64 (by omega), List.append_assoc, ← e2]
  exact e1
theorem writes_tier : Writes pTier encTier := by
  intro l a r hb hr
  obtain ⟨x, l1, h1, hr⟩ := bind_some hr
  obtain ⟨y, l2, h2, hr⟩ := bind_some hr
  obtain ⟨rfl, rfl⟩ := ret_some hr
  obtain ⟨e1, b1, n0, n1⟩ := writes_pnum 8 l x l1 hb h1
  obtain ⟨e2, b2, m0, m1⟩ := writes_pnum 8 l1 y l2 b1 h2
  unfold encTier
  simp only
  rw [u64_s64 (by omega), u64_s64 (by omega), List.append_assoc, ← e2]
  exact e1
theorem writes_tiers : Writes pTiers encTiers := writes_many writes_tier 1
theorem writes_instr : Writes pInstr encInstr := by
  intro l a r hb hr
  obtain ⟨x, l1, h1, hr⟩ := bind_some hr
  obtain ⟨y, l2, h2, hr⟩ := bind_some hr
  obtain ⟨z, l3, h3, hr⟩ := bind_some hr
  obtain ⟨rfl, rfl⟩ := ret_some hr
  obtain ⟨e1, b1, n0, n1⟩ := writes_pnum 1 l x l1 hb h1
  obtain ⟨e2, b2, m0, m1⟩ := writes_pnum 2 l1 y l2 b1 h2
  obtain ⟨e3, b3, k0, k1⟩ := writes_pnum 2 l2 z l3 b2 h3
  unfold encInstr
  simp only
  rw [u64_s64 (by omega), u64_s64 (by omega), u64_s64 (by omega), List.append_assoc, List.append_assoc, ← e3, ← e2]
  exact e1
theorem writes_prg : Writes pPrg bodyB := by
  intro l a r hb hr
  obtain ⟨mode, l1, h1, hr⟩ := bind_some hr
  obtain ⟨scale, l2, h2, hr⟩ := bind_some hr
  obtain ⟨sizes, l3, h3, hr⟩ := bind_some hr
  obtain ⟨consts, l4, h4, hr⟩ := bind_some hr
  obtain ⟨scales, l5, h5, hr⟩ := bind_some hr
  obtain ⟨code, l6, h6, hr⟩ := bind_some hr
  obtain ⟨rfl, rfl⟩ := ret_some hr
  obtain ⟨e1, b1, n0, n1⟩ := writes_pnum 1 l mode l1 hb h1
  obtain ⟨e2, b2, m0, m1⟩ := writes_pnum 1 l1 scale l2 b1 h2
  have e3 := writes_many writes_size 1 l2 sizes l3 b2 h3
  have b3 := b2.tail e3
  have e4 := writes_many writes_wide 2 l3 consts l4 b3 h4
  have b4 := b3.tail e4
  have e5 := writes_many writes_tiers 2 l4 scales l5 b4 h5
  have b5 := b4.tail e5
  have e6 := writes_many writes_instr 2 l5 code l6 b5 h6
  unfold bodyB
  simp only at e3 e4 e5 e6 ⊢
  have f1 : [sw64 mode % 256] = le 1 mode := by unfold sw64; rw [wsi (by omega)]; simp [le]
  have f2 : [sw64 scale % 256] = le 1 scale := by unfold sw64; rw [wsi (by omega)]; simp [le]
  rw [f1, f2]
  simp only [List.append_assoc, List.nil_append] at e3 e4 e5 e6 ⊢
  rw [← e6, ← e5, ← e4, ← e3, ← e2]
  exact e1
theorem gives_rep {α : Type} {p : Ps α} {e : α → List Int} {A : α → Prop} (h : Writes p e) (hA : ∀ l a r, Bs l → p l = some (a, r) → A a) : ∀ (n : Nat) (l : List Int) (a : List α) (r : List Int), Bs l → rep p n l = some (a, r) → ∀ x ∈ a, A x
  | 0, l, a, r, hb, hr => by
    obtain ⟨rfl, rfl⟩ := ret_some hr
    intro x hx
    cases hx
  | n + 1, l, a, r, hb, hr => by
    obtain ⟨x, l1, h1, hr⟩ := bind_some hr
    obtain ⟨y, l2, h2, hr⟩ := bind_some hr
    obtain ⟨rfl, rfl⟩ := ret_some hr
    have ih := gives_rep h hA n l1 y l2 (hb.tail (h l x l1 hb h1)) h2
    intro z hz
    rcases List.mem_cons.1 hz with rfl | hz
    · exact hA l z l1 hb h1
    · exact ih z hz
theorem gives_wide : ∀ l a r, Bs l → pWide l = some (a, r) → 0 ≤ a.2 ∧ a.2 ≤ 18446744073709551615 := by
  intro l a r hb hr
  obtain ⟨x, l1, h1, hr⟩ := bind_some hr
  obtain ⟨y, l2, h2, hr⟩ := bind_some hr
  obtain ⟨rfl, rfl⟩ := ret_some hr
  obtain ⟨e1, b1, n0, n1⟩ := writes_pnum 8 l x l1 hb h1
  simp only
  omega
theorem gives_prg {l : List Int} {p : Prg} {r : List Int} (hb : Bs l) (hr : pPrg l = some (p, r)) : Los p := by
  obtain ⟨mode, l1, h1, hr⟩ := bind_some hr
  obtain ⟨scale, l2, h2, hr⟩ := bind_some hr
  obtain ⟨sizes, l3, h3, hr⟩ := bind_some hr
  obtain ⟨consts, l4, h4, hr⟩ := bind_some hr
  obtain ⟨scales, l5, h5, hr⟩ := bind_some hr
  obtain ⟨code, l6, h6, hr⟩ := bind_some hr
  obtain ⟨rfl, rfl⟩ := ret_some hr
  obtain ⟨e1, b1, n0, n1⟩ := writes_pnum 1 l mode l1 hb h1
  obtain ⟨e2, b2, m0, m1⟩ := writes_pnum 1 l1 scale l2 b1 h2
  have b3 := b2.tail (writes_many writes_size 1 l2 sizes l3 b2 h3)
  obtain ⟨n, k1, g1, h4⟩ := bind_some h4
  obtain ⟨_, b4, _, _⟩ := writes_pnum 2 l3 n k1 b3 g1
  exact gives_rep writes_wide gives_wide n.toNat k1 consts l4 b4 h4
/-! ### the decoder -/
theorem magic_split {b : List Int} (h : magic b = true) : b = [79, 67, 84, 49] ++ b.drop 4 := by
  unfold magic at h
  have := of_decide_eq_true h
  rw [← this, List.take_append_drop]
theorem decans_cases {b : List Int} (hb : Bs b) : decans b = (zeroP, 160, ()) ∨ ∃ p, decans b = (p, 0, ()) ∧ chk p = 0 ∧ b = encB p ∧ Los p := by
  unfold decans
  cases hm : magic b with
  | false => exact .inl rfl
  | true =>
    simp only [cond_true]
    have hs := magic_split hm
    split
    · rename_i p hp
      by_cases hc : chk p = 0
      · refine .inr ⟨p, ?_, hc, ?_, gives_prg (hb.drop 4) hp⟩
        · rw [hc]
          rfl
        · have := writes_prg (b.drop 4) p [] (hb.drop 4) hp
          rw [List.append_nil] at this
          rw [encB_body, ← this]
          exact hs
      · rw [bif_t (show (chk p != 0) = true from by simpa using hc)]
        exact .inl rfl
    · exact .inl rfl
theorem le_byte : ∀ (k : Nat) (x : Int), Bs (le k x)
  | 0, x => fun y hy => by cases hy
  | k + 1, x => fun y hy => by
    rcases List.mem_cons.1 hy with rfl | hy
    · unfold Byte; omega
    · exact le_byte k (x / 256) y hy
theorem bs_app {a b : List Int} (ha : Bs a) (hb : Bs b) : Bs (a ++ b) := fun x hx => by
  rcases List.mem_append.1 hx with h | h
  · exact ha x h
  · exact hb x h
theorem bs_flat {α : Type} {f : α → List Int} (h : ∀ x, Bs (f x)) (l : List α) : Bs (l.flatMap f) := fun x hx => by
  obtain ⟨y, _, hy⟩ := List.mem_flatMap.1 hx
  exact h y x hy
theorem bs_one (x : Int) : Bs [x % 256] := fun y hy => by
  rw [List.mem_singleton.1 hy]
  unfold Byte
  omega
theorem encB_bytes (p : Prg) : Bs (encB p) := by
  have hm : Bs [79, 67, 84, 49] := fun x hx => by
    simp only [List.mem_cons, List.not_mem_nil, or_false] at hx
    unfold Byte
    omega
  have ht : ∀ t, Bs (encTier t) := fun t => bs_app (le_byte _ _) (le_byte _ _)
  rw [encB_body]
  refine bs_app hm ?_
  refine bs_app (bs_one _) (bs_app (bs_one _) (bs_app (bs_app (le_byte _ _) (bs_flat (fun _ => le_byte _ _) _)) (bs_app (bs_app (le_byte _ _) (bs_flat (fun _ => bs_app (le_byte _ _) (le_byte _ _)) _)) (bs_app (bs_app (le_byte _ _) (bs_flat (fun l => bs_app (bs_one _) (bs_flat ht l)) _)) (bs_app (bs_app (le_byte _ _) (bs_flat (fun _ => bs_app (bs_app (le_byte _ _) (le_byte _ _)) (le_byte _ _)) _)) (fun x hx => by cases hx))))))
theorem encB_len {p : Prg} (h : Fit p) : (encB p).length ≤ 400000 ∧ 4 ≤ (encB p).length := by
  obtain ⟨fa, fb, fc, fd, fe⟩ := h
  have s1 := flat_len (f := encSize) (m := 8) p.2.2.1 fun x _ => by simp [encSize, le_len]
  have s2 := flat_len (f := encWide) (m := 16) p.2.2.2.1 fun x _ => by simp [encWide, le_len]
  have s3 := flat_len (f := encTiers) (m := 257) p.2.2.2.2.1 fun x hx => encTiers_len (fe x hx)
  have s4 := flat_len (f := encInstr) (m := 5) p.2.2.2.2.2 fun x _ => by simp [encInstr, le_len]
  unfold encB headB
  simp only [List.length_append, List.length_cons, List.length_nil, le_len]
  omega
end Go.Proofs.YtaalnjfmcjdimaaGreat.E
/-
  Which programs may run: the two provers do the same, step by step. No condition but the sizes that any machine's memory has.
-/
namespace Go.Proofs.YtaalnjfmcjdimaaGreat.E
open Go
set_option linter.unusedVariables false
set_option linter.unusedSimpArgs false
set_option maxRecDepth 100000
abbrev Pl : Type := List (Int × Int)
def tkn (op : Int) : Int := if op = 4 ∨ (10 ≤ op ∧ op ≤ 14) ∨ (16 ≤ op ∧ op ≤ 21) then 1 else if 5 ≤ op ∧ op ≤ 9 then 2 else if (1 ≤ op ∧ op ≤ 3) ∨ op = 15 then 0 else -1
def lyn (op : Int) : Int := if op ≥ 15 then 0 else 1
def arn (p : Prg) (op : Int) : Int := if op = 2 ∨ op = 3 then (p.2.2.1.length : Int) else if op = 12 ∨ op = 13 then (p.2.2.2.2.1.length : Int) else if op = 14 then 10001 else if op = 1 ∨ op = 10 ∨ op = 11 ∨ op > 15 then (p.2.2.2.1.length : Int) else 1
theorem op_cases (op : Int) : op ≤ 0 ∨ op = 1 ∨ op = 2 ∨ op = 3 ∨ op = 4 ∨ op = 5 ∨ op = 6 ∨ op = 7 ∨ op = 8 ∨ op = 9 ∨ op = 10 ∨ op = 11 ∨ op = 12 ∨ op = 13 ∨ op = 14 ∨ op = 15 ∨ op = 16 ∨ op = 17 ∨ op = 18 ∨ op = 19 ∨ op = 20 ∨ op = 21 ∨ 22 ≤ op := by omega
theorem eqF {op k : Int} (h : op ≠ k) : (op == k) = false := by simpa using h
theorem rTakes (op : Int) : N63 (op, ()) = some (tkn op, ()) := by
  rcases op_cases op with h | rfl | rfl | rfl | rfl | rfl | rfl | rfl | rfl | rfl | rfl | rfl | rfl | rfl | rfl | rfl | rfl | rfl | rfl | rfl | rfl | rfl | h
  · unfold N63 M63
    simp only [eqF (show op ≠ 1 by omega), eqF (show op ≠ 2 by omega), eqF (show op ≠ 3 by omega), eqF (show op ≠ 4 by omega), eqF (show op ≠ 10 by omega), eqF (show op ≠ 11 by omega), eqF (show op ≠ 12 by omega), eqF (show op ≠ 13 by omega), eqF (show op ≠ 14 by omega), eqF (show op ≠ 15 by omega), decide_eq_false (show ¬ op ≥ 1 by omega), decide_eq_false (show ¬ op ≥ 5 by omega), decide_eq_false (show ¬ op ≥ 10 by omega), decide_eq_false (show ¬ op ≥ 16 by omega), decide_eq_false (show ¬ op > 15 by omega), cond_false]
    unfold tkn
    rw [if_neg (by omega), if_neg (by omega), if_neg (by omega)]
  rotate_right 1
  · unfold N63 M63
    simp only [eqF (show op ≠ 1 by omega), eqF (show op ≠ 2 by omega), eqF (show op ≠ 3 by omega), eqF (show op ≠ 4 by omega), eqF (show op ≠ 10 by omega), eqF (show op ≠ 11 by omega), eqF (show op ≠ 12 by omega), eqF (show op ≠ 13 by omega), eqF (show op ≠ 14 by omega), eqF (show op ≠ 15 by omega), decide_eq_true (show op ≥ 1 by omega), decide_eq_true (show op ≥ 5 by omega), decide_eq_true (show op ≥ 10 by omega), decide_eq_true (show op ≥ 16 by omega), decide_eq_true (show op > 15 by omega), decide_eq_false (show ¬ op ≤ 3 by omega), decide_eq_false (show ¬ op ≤ 9 by omega), decide_eq_false (show ¬ op ≤ 14 by omega), decide_eq_false (show ¬ op ≤ 21 by omega), cond_false, cond_true]
    unfold tkn
    rw [if_neg (by omega), if_neg (by omega), if_neg (by omega)]
  all_goals rfl
theorem rLays (op : Int) : N65 (op, ()) = some (lyn op, ()) := by
  unfold N65 M65 lyn
  simp only [bif_p]
  split <;> rfl
theorem rArgs (p : Prg) (op : Int) : N64 (p, op, ()) = some (arn p op, ()) := by
  obtain ⟨mode, scale, sizes, consts, scales, code⟩ := p
  rcases op_cases op with h | rfl | rfl | rfl | rfl | rfl | rfl | rfl | rfl | rfl | rfl | rfl | rfl | rfl | rfl | rfl | rfl | rfl | rfl | rfl | rfl | rfl | h
  · unfold N64 M64
    simp only [eqF (show op ≠ 1 by omega), eqF (show op ≠ 2 by omega), eqF (show op ≠ 3 by omega), eqF (show op ≠ 4 by omega), eqF (show op ≠ 10 by omega), eqF (show op ≠ 11 by omega), eqF (show op ≠ 12 by omega), eqF (show op ≠ 13 by omega), eqF (show op ≠ 14 by omega), eqF (show op ≠ 15 by omega), decide_eq_false (show ¬ op ≥ 1 by omega), decide_eq_false (show ¬ op ≥ 5 by omega), decide_eq_false (show ¬ op ≥ 10 by omega), decide_eq_false (show ¬ op ≥ 16 by omega), decide_eq_false (show ¬ op > 15 by omega), cond_false]
    unfold arn
    rw [if_neg (by omega), if_neg (by omega), if_neg (by omega), if_neg (by omega)]
  rotate_right 1
  · unfold N64 M64
    simp only [eqF (show op ≠ 1 by omega), eqF (show op ≠ 2 by omega), eqF (show op ≠ 3 by omega), eqF (show op ≠ 4 by omega), eqF (show op ≠ 10 by omega), eqF (show op ≠ 11 by omega), eqF (show op ≠ 12 by omega), eqF (show op ≠ 13 by omega), eqF (show op ≠ 14 by omega), eqF (show op ≠ 15 by omega), decide_eq_true (show op ≥ 1 by omega), decide_eq_true (show op ≥ 5 by omega), decide_eq_true (show op ≥ 10 by omega), decide_eq_true (show op ≥ 16 by omega), decide_eq_true (show op > 15 by omega), decide_eq_false (show ¬ op ≤ 3 by omega), decide_eq_false (show ¬ op ≤ 9 by omega), decide_eq_false (show ¬ op ≤ 14 by omega), decide_eq_false (show ¬ op ≤ 21 by omega), cond_false, cond_true]
    unfold arn
    rw [if_neg (by omega), if_neg (by omega), if_neg (by omega), if_pos (by omega)]
  all_goals rfl
def whatans (p : Prg) (op : Int) : (Int × Int × Int × Bool) × Bool × Unit := if tkn op < 0 then ((0, 0, 0, false), false, ()) else ((tkn op, lyn op, arn p op, decide (op ≥ 15)), true, ())
theorem eWhat (p : Prg) (op : Int) : N81 (p, op, ()) = some (whatans p op) := by
  obtain ⟨mode, scale, sizes, consts, scales, code⟩ := p
  rcases op_cases op with h | rfl | rfl | rfl | rfl | rfl | rfl | rfl | rfl | rfl | rfl | rfl | rfl | rfl | rfl | rfl | rfl | rfl | rfl | rfl | rfl | rfl | h
  · unfold N81 M81
    simp only [eqF (show op ≠ 1 by omega), eqF (show op ≠ 2 by omega), eqF (show op ≠ 3 by omega), eqF (show op ≠ 4 by omega), eqF (show op ≠ 10 by omega), eqF (show op ≠ 11 by omega), eqF (show op ≠ 12 by omega), eqF (show op ≠ 13 by omega), eqF (show op ≠ 14 by omega), eqF (show op ≠ 15 by omega), decide_eq_false (show ¬ op ≥ 1 by omega), decide_eq_false (show ¬ op ≥ 5 by omega), decide_eq_false (show ¬ op ≥ 10 by omega), decide_eq_false (show ¬ op ≥ 16 by omega), decide_eq_false (show ¬ op > 15 by omega), cond_false]
    unfold whatans
    rw [if_pos (by unfold tkn; rw [if_neg (by omega), if_neg (by omega), if_neg (by omega)]; decide)]
  rotate_right 1
  · unfold N81 M81
    simp only [eqF (show op ≠ 1 by omega), eqF (show op ≠ 2 by omega), eqF (show op ≠ 3 by omega), eqF (show op ≠ 4 by omega), eqF (show op ≠ 10 by omega), eqF (show op ≠ 11 by omega), eqF (show op ≠ 12 by omega), eqF (show op ≠ 13 by omega), eqF (show op ≠ 14 by omega), eqF (show op ≠ 15 by omega), decide_eq_true (show op ≥ 1 by omega), decide_eq_true (show op ≥ 5 by omega), decide_eq_true (show op ≥ 10 by omega), decide_eq_true (show op ≥ 16 by omega), decide_eq_true (show op > 15 by omega), decide_eq_false (show ¬ op ≤ 3 by omega), decide_eq_false (show ¬ op ≤ 9 by omega), decide_eq_false (show ¬ op ≤ 14 by omega), decide_eq_false (show ¬ op ≤ 21 by omega), cond_false, cond_true]
    unfold whatans
    rw [if_pos (by unfold tkn; rw [if_neg (by omega), if_neg (by omega), if_neg (by omega)]; decide)]
  all_goals rfl
def mx (a b : Int) : Int := if b > a then b else a
def rch (pl : Pl) (most : Int) (i : Nat) (h s : Int) : Int × Pl × Int :=
  if 0 ≤ (pl.getD i (-1, 0)).1 ∧ (pl.getD i (-1, 0)).1 ≠ h then (171, pl, most) else (0, pl.set i (h, mx (pl.getD i (-1, 0)).2 s), mx most h)
theorem set_get_same {γ : Type} {l : List γ} {i : Nat} (h : i < l.length) : l.set i l[i] = l := by simp
theorem eReach (p : Prg) {pl : Pl} {most h s : Int} {i : Nat} (hi : i < pl.length) : N82 ((p, pl, most, ()), (i : Int), h, s, ()) = some ((rch pl most i h s).1, (p, (rch pl most i h s).2.1, (rch pl most i h s).2.2, ()), ()) := by
  obtain ⟨mode, scale, sizes, consts, scales, code⟩ := p
  unfold N82 M82 rch
  simp only []
  have hb : (decide (0 ≤ (i : Int)) && decide ((i : Int) < (pl.length : Int))) = true := by rw [decide_eq_true (show 0 ≤ (i : Int) by omega), decide_eq_true (show (i : Int) < (pl.length : Int) by omega)]; rfl
  rw [bif_f (decide_eq_false (show ¬ (i : Int) ≥ (pl.length : Int) by omega)), hb]
  simp only [Int.toNat_natCast, List.getElem?_eq_getElem hi, Option.bind_some, cond_true]
  rw [getD_at hi, bif_p]
  by_cases h0 : pl[i].1 ≥ 0
  · rw [if_pos h0, bif_ne]
    by_cases h1 : pl[i].1 = h
    · rw [if_pos h1, if_neg (show ¬ (0 ≤ pl[i].1 ∧ pl[i].1 ≠ h) by omega), List.getElem?_set_self hi]
      simp only [Option.bind_some]
      rw [List.set_set]
      rfl
    · rw [if_neg h1, if_pos (by omega)]
  · rw [if_neg h0, if_neg (show ¬ (0 ≤ pl[i].1 ∧ pl[i].1 ≠ h) by omega), List.getElem?_set_self hi]
    simp only [Option.bind_some]
    rw [List.set_set]
    rfl
theorem rWay {pl : Pl} {most h s : Int} {i : Nat} (hi : i < pl.length) : N66 ((pl.map (·.1), pl.map (·.2), most, ()), (i : Int), h, s, ()) = some ((rch pl most i h s).1, ((rch pl most i h s).2.1.map (·.1), (rch pl most i h s).2.1.map (·.2), (rch pl most i h s).2.2, ()), ()) := by
  unfold N66 M66 rch
  simp only []
  have h1 : i < (pl.map (·.1)).length := by simpa using hi
  have h2 : i < (pl.map (·.2)).length := by simpa using hi
  have hb : ∀ n : Nat, i < n → (decide (0 ≤ (i : Int)) && decide ((i : Int) < (n : Int))) = true := fun n hn => by rw [decide_eq_true (show 0 ≤ (i : Int) by omega), decide_eq_true (show (i : Int) < (n : Int) by omega)]; rfl
  rw [hb _ h1, hb _ h2]
  simp only [Int.toNat_natCast, List.getElem?_eq_getElem h1, List.getElem?_eq_getElem h2, Option.bind_some, cond_true, List.getElem_map]
  rw [getD_at hi]
  have hs : ∀ x : Int × Int, (pl.set i x).map (·.1) = (pl.map (·.1)).set i x.1 ∧ (pl.set i x).map (·.2) = (pl.map (·.2)).set i x.2 := fun x => ⟨List.map_set, List.map_set⟩
  have keep : (pl.map (·.2)).set i pl[i].2 = pl.map (·.2) := by
    have := set_get_same (l := pl.map (·.2)) h2
    rwa [List.getElem_map] at this
  have fin : (bif decide (s > pl[i].2) then (bif decide (h > most) then some ((0 : Int), ((pl.map (·.1)).set i h, (pl.map (·.2)).set i s, h, ()), ()) else some (0, ((pl.map (·.1)).set i h, (pl.map (·.2)).set i s, most, ()), ())) else (bif decide (h > most) then some (0, ((pl.map (·.1)).set i h, pl.map (·.2), h, ()), ()) else some (0, ((pl.map (·.1)).set i h, pl.map (·.2), most, ()), ()))) = some (0, ((pl.set i (h, mx pl[i].2 s)).map (·.1), (pl.set i (h, mx pl[i].2 s)).map (·.2), mx most h, ()), ()) := by
    rw [(hs _).1, (hs _).2]
    unfold mx
    by_cases c2 : s > pl[i].2
    · by_cases c3 : h > most
      · rw [decide_eq_true c2, decide_eq_true c3, if_pos c2, if_pos c3]; rfl
      · rw [decide_eq_true c2, decide_eq_false c3, if_pos c2, if_neg c3]; rfl
    · by_cases c3 : h > most
      · rw [decide_eq_false c2, decide_eq_true c3, if_neg c2, if_pos c3, keep]; rfl
      · rw [decide_eq_false c2, decide_eq_false c3, if_neg c2, if_neg c3, keep]; rfl
  by_cases c0 : pl[i].1 ≥ 0
  · rw [bif_t (decide_eq_true c0), bif_ne]
    by_cases c1 : pl[i].1 = h
    · rw [if_pos c1, if_neg (by omega)]
      exact fin
    · rw [if_neg c1, if_pos (by omega)]
  · rw [bif_f (decide_eq_false c0), if_neg (by omega)]
    exact fin
def stp (p : Prg) (pl : Pl) (most : Int) (i : Nat) : Int × Pl × Int :=
  if (pl.getD i (-1, 0)).1 < 0 then (172, pl, most)
  else if tkn (p.2.2.2.2.2.getD i (0, 0, 0)).1 < 0 then (170, pl, most)
  else if (p.2.2.2.2.2.getD i (0, 0, 0)).2.1 ≥ arn p (p.2.2.2.2.2.getD i (0, 0, 0)).1 then (170, pl, most)
  else if (p.2.2.2.2.2.getD i (0, 0, 0)).1 < 15 ∧ (p.2.2.2.2.2.getD i (0, 0, 0)).2.2 ≠ 0 then (170, pl, most)
  else if (pl.getD i (-1, 0)).1 < tkn (p.2.2.2.2.2.getD i (0, 0, 0)).1 then (171, pl, most)
  else if (pl.getD i (-1, 0)).1 - tkn (p.2.2.2.2.2.getD i (0, 0, 0)).1 + lyn (p.2.2.2.2.2.getD i (0, 0, 0)).1 > 1024 then (171, pl, most)
  else if (i : Int) + 1 + (p.2.2.2.2.2.getD i (0, 0, 0)).2.2 > (p.2.2.2.2.2.length : Int) then (172, pl, most)
  else if (p.2.2.2.2.2.getD i (0, 0, 0)).1 = 15 then rch pl most (i + 1 + (p.2.2.2.2.2.getD i (0, 0, 0)).2.2.toNat) ((pl.getD i (-1, 0)).1 - tkn (p.2.2.2.2.2.getD i (0, 0, 0)).1 + lyn (p.2.2.2.2.2.getD i (0, 0, 0)).1) ((pl.getD i (-1, 0)).2 + 1)
  else if (rch pl most (i + 1) ((pl.getD i (-1, 0)).1 - tkn (p.2.2.2.2.2.getD i (0, 0, 0)).1 + lyn (p.2.2.2.2.2.getD i (0, 0, 0)).1) ((pl.getD i (-1, 0)).2 + 1)).1 ≠ 0 then rch pl most (i + 1) ((pl.getD i (-1, 0)).1 - tkn (p.2.2.2.2.2.getD i (0, 0, 0)).1 + lyn (p.2.2.2.2.2.getD i (0, 0, 0)).1) ((pl.getD i (-1, 0)).2 + 1)
  else if (p.2.2.2.2.2.getD i (0, 0, 0)).1 < 15 then rch pl most (i + 1) ((pl.getD i (-1, 0)).1 - tkn (p.2.2.2.2.2.getD i (0, 0, 0)).1 + lyn (p.2.2.2.2.2.getD i (0, 0, 0)).1) ((pl.getD i (-1, 0)).2 + 1)
  else rch (rch pl most (i + 1) ((pl.getD i (-1, 0)).1 - tkn (p.2.2.2.2.2.getD i (0, 0, 0)).1 + lyn (p.2.2.2.2.2.getD i (0, 0, 0)).1) ((pl.getD i (-1, 0)).2 + 1)).2.1 (rch pl most (i + 1) ((pl.getD i (-1, 0)).1 - tkn (p.2.2.2.2.2.getD i (0, 0, 0)).1 + lyn (p.2.2.2.2.2.getD i (0, 0, 0)).1) ((pl.getD i (-1, 0)).2 + 1)).2.2 (i + 1 + (p.2.2.2.2.2.getD i (0, 0, 0)).2.2.toNat) ((pl.getD i (-1, 0)).1 - tkn (p.2.2.2.2.2.getD i (0, 0, 0)).1 + lyn (p.2.2.2.2.2.getD i (0, 0, 0)).1) ((pl.getD i (-1, 0)).2 + 1)
theorem rch_len (pl : Pl) (most : Int) (i : Nat) (h s : Int) : (rch pl most i h s).2.1.length = pl.length := by
  unfold rch
  split <;> simp
structure Rg (p : Prg) (pl : Pl) (most : Int) (i : Nat) : Prop where
  len : pl.length = p.2.2.2.2.2.length + 1
  n : p.2.2.2.2.2.length ≤ 8192
  ins : ∀ c ∈ p.2.2.2.2.2, badInstr c = false
  hs : ∀ x ∈ pl, (-1 ≤ x.1 ∧ x.1 ≤ 1024) ∧ (0 ≤ x.2 ∧ x.2 ≤ (i : Int))
  m : 0 ≤ most ∧ most ≤ 1024
theorem badInstr_in {c : Int × Int × Int} (h : badInstr c = false) : (0 ≤ c.1 ∧ c.1 ≤ 255) ∧ (0 ≤ c.2.1 ∧ c.2.1 ≤ 65535) ∧ (0 ≤ c.2.2 ∧ c.2.2 ≤ 65535) := by
  unfold badInstr at h
  simp only [Bool.or_eq_false_iff, decide_eq_false_iff_not] at h
  omega
theorem tkn_in (op : Int) : -1 ≤ tkn op ∧ tkn op ≤ 2 := by unfold tkn; (repeat' split) <;> omega
theorem lyn_in (op : Int) : 0 ≤ lyn op ∧ lyn op ≤ 1 := by unfold lyn; split <;> omega
section
variable {p : Prg} {pl : Pl} {most : Int} {i : Nat} (R : Rg p pl most i) (hi : i < p.2.2.2.2.2.length)
include R hi
theorem eOne : N38 ((p, pl, most, ()), (i : Int), ()) = some ((stp p pl most i).1, (p, (stp p pl most i).2.1, (stp p pl most i).2.2, ()), ()) := by
  have hl := R.len
  have hn := R.n
  have hip : i < pl.length := by omega
  have hx := R.hs pl[i] (List.getElem_mem hip)
  have hc := badInstr_in (R.ins _ (List.getElem_mem hi))
  have hr := fun (pl' : Pl) (most' h s : Int) (j : Nat) (hj : j < pl'.length) => eReach p (pl := pl') (most := most') (h := h) (s := s) hj
  have hw := eWhat p
  unfold stp
  obtain ⟨mode, scale, sizes, consts, scales, code⟩ := p
  unfold N38 M38
  simp only [] at hl hn hi hc ⊢
  rw [at_get hi, getD_at hi, getD_at hip]
  have hb : (decide (0 ≤ (i : Int)) && decide ((i : Int) < (pl.length : Int))) = true := by rw [decide_eq_true (show 0 ≤ (i : Int) by omega), decide_eq_true (show (i : Int) < (pl.length : Int) by omega)]; rfl
  rw [hb]
  simp only [Option.bind_some, cond_true, Int.toNat_natCast]
  rw [List.getElem?_eq_getElem hip]
  simp only [Option.bind_some]
  generalize hcv : code[i] = c at *
  generalize hxv : pl[i] = x at *
  obtain ⟨op, arg, skip⟩ := c
  obtain ⟨h, s⟩ := x
  simp only [] at hc hx ⊢
  obtain ⟨⟨c0, c1⟩, ⟨c2, c3⟩, c4, c5⟩ := hc
  obtain ⟨⟨x0, x1⟩, x2, x3⟩ := hx
  have tk := tkn_in op
  have ly := lyn_in op
  by_cases k1 : h < 0
  · rw [bif_t (decide_eq_true k1), if_pos k1]
  rw [bif_f (decide_eq_false k1), if_neg k1, hw op]
  simp only [Option.bind_some]
  unfold whatans
  by_cases k2 : tkn op < 0
  · rw [if_pos k2, if_pos k2]
    rfl
  rw [if_neg k2, if_neg k2]
  simp only [Bool.not_true, cond_false]
  by_cases k3 : arg ≥ arn (mode, scale, sizes, consts, scales, code) op
  · rw [bif_t (decide_eq_true k3), if_pos k3]
  rw [bif_f (decide_eq_false k3), if_neg k3]
  have hskip : IntKind.wrap .i64 ((i : Int) + 1) = ((i + 1 : Nat) : Int) := by rw [wsi (by omega)]; omega
  have hfar : IntKind.wrap .i64 (((i + 1 : Nat) : Int) + skip) = ((i + 1 + skip.toNat : Nat) : Int) := by rw [wsi (by omega)]; omega
  rw [wsi (n := h - tkn op) (by omega), wsi (n := h - tkn op + lyn op) (by omega), wsi (n := s + 1) (by omega), hskip, hfar]
  by_cases k4 : op ≥ 15
  · rw [decide_eq_true k4]
    simp only [Bool.not_true, cond_false, cond_true]
    rw [if_neg (show ¬ (op < 15 ∧ skip ≠ 0) by omega)]
    by_cases k5 : h < tkn op
    · rw [bif_t (decide_eq_true k5), if_pos k5]
    rw [bif_f (decide_eq_false k5), if_neg k5]
    by_cases k6 : h - tkn op + lyn op > 1024
    · rw [bif_t (decide_eq_true k6), if_pos k6]
    rw [bif_f (decide_eq_false k6), if_neg k6]
    by_cases k7 : (i : Int) + 1 + skip > (code.length : Int)
    · rw [bif_t (decide_eq_true (by omega)), if_pos k7]
    rw [bif_f (decide_eq_false (by omega)), if_neg k7, bif_ne]
    by_cases k8 : op = 15
    · rw [if_pos k8, if_pos k8, hr pl most _ _ _ (by omega)]
      rfl
    · rw [if_neg k8, if_neg k8, hr pl most _ _ _ (by omega)]
      simp only [Option.bind_some]
      have hl1 := rch_len pl most (i + 1) (h - tkn op + lyn op) (s + 1)
      generalize rch pl most (i + 1) (h - tkn op + lyn op) (s + 1) = y at *
      obtain ⟨y0, y1, y2⟩ := y
      simp only [] at hl1 ⊢
      rw [bif_ne]
      by_cases k9 : y0 = 0
      · rw [if_pos k9, if_neg (by omega), if_neg (by omega), hr y1 y2 _ _ _ (by omega)]
        rfl
      · rw [if_neg k9, if_pos k9]
  · rw [decide_eq_false k4]
    simp only [Bool.not_false, cond_false, cond_true]
    rw [bif_ne]
    by_cases k4b : skip = 0
    rotate_left
    · rw [if_neg k4b, if_pos (show op < 15 ∧ skip ≠ 0 from ⟨by omega, k4b⟩)]
    rw [if_pos k4b, if_neg (show ¬ (op < 15 ∧ skip ≠ 0) by omega)]
    by_cases k5 : h < tkn op
    · rw [bif_t (decide_eq_true k5), if_pos k5]
    rw [bif_f (decide_eq_false k5), if_neg k5]
    by_cases k6 : h - tkn op + lyn op > 1024
    · rw [bif_t (decide_eq_true k6), if_pos k6]
    rw [bif_f (decide_eq_false k6), if_neg k6]
    by_cases k7 : (i : Int) + 1 + skip > (code.length : Int)
    · rw [bif_t (decide_eq_true (by omega)), if_pos k7]
    rw [bif_f (decide_eq_false (by omega)), if_neg k7, bif_ne, if_neg (show ¬ op = 15 by omega), if_neg (show ¬ op = 15 by omega), hr pl most _ _ _ (by omega)]
    simp only [Option.bind_some]
    generalize rch pl most (i + 1) (h - tkn op + lyn op) (s + 1) = y at *
    obtain ⟨y0, y1, y2⟩ := y
    simp only []
    rw [bif_ne]
    by_cases k9 : y0 = 0
    · rw [if_pos k9, if_neg (by omega), if_pos (by omega), k9]
    · rw [if_neg k9, if_pos k9]
theorem rOne : N25 ((pl.map (·.1), pl.map (·.2), most, ()), p, (i : Int), ()) = some ((stp p pl most i).1, ((stp p pl most i).2.1.map (·.1), (stp p pl most i).2.1.map (·.2), (stp p pl most i).2.2, ()), ()) := by
  have hl := R.len
  have hn := R.n
  have hip : i < pl.length := by omega
  have hx := R.hs pl[i] (List.getElem_mem hip)
  have hc := badInstr_in (R.ins _ (List.getElem_mem hi))
  have hr := fun (pl' : Pl) (most' h s : Int) (j : Nat) (hj : j < pl'.length) => rWay (pl := pl') (most := most') (h := h) (s := s) hj
  have hw := rArgs p
  have hset : ∀ (h s : Int), (rch pl most (i + 1) h s).2.1[i]? = pl[i]? := fun h s => by
    unfold rch
    split
    · rfl
    · exact List.getElem?_set_ne (by omega)
  unfold stp
  obtain ⟨mode, scale, sizes, consts, scales, code⟩ := p
  unfold N25 M25
  simp only [] at hl hn hi hc ⊢
  rw [at_get hi, getD_at hi, getD_at hip]
  have hb : ∀ n : Nat, i < n → (decide (0 ≤ (i : Int)) && decide ((i : Int) < (n : Int))) = true := fun n hn => by rw [decide_eq_true (show 0 ≤ (i : Int) by omega), decide_eq_true (show (i : Int) < (n : Int) by omega)]; rfl
  rw [hb _ (show i < (pl.map (·.1)).length by simpa using hip), hb _ (show i < (pl.map (·.2)).length by simpa using hip)]
  simp only [Option.bind_some, cond_true, Int.toNat_natCast, List.getElem?_map]
  rw [List.getElem?_eq_getElem hip]
  rw [List.getElem?_eq_getElem hip] at hset
  simp only [Option.bind_some, Option.map_some]
  generalize hcv : code[i] = c at *
  generalize hxv : pl[i] = x at *
  obtain ⟨op, arg, skip⟩ := c
  obtain ⟨h, s⟩ := x
  simp only [] at hc hx ⊢
  obtain ⟨⟨c0, c1⟩, ⟨c2, c3⟩, c4, c5⟩ := hc
  obtain ⟨⟨x0, x1⟩, x2, x3⟩ := hx
  have tk := tkn_in op
  have ly := lyn_in op
  by_cases k1 : h < 0
  · rw [bif_t (decide_eq_true k1), if_pos k1]
  rw [bif_f (decide_eq_false k1), if_neg k1, rTakes op]
  simp only [Option.bind_some]
  by_cases k2 : tkn op < 0
  · rw [bif_t (decide_eq_true k2), if_pos k2]
  rw [bif_f (decide_eq_false k2), if_neg k2, hw op]
  simp only [Option.bind_some]
  by_cases k3 : arg ≥ arn (mode, scale, sizes, consts, scales, code) op
  · rw [bif_t (decide_eq_true k3), if_pos k3]
  rw [bif_f (decide_eq_false k3), if_neg k3, rLays op]
  simp only [Option.bind_some]
  have hskip : IntKind.wrap .i64 ((i : Int) + 1) = ((i + 1 : Nat) : Int) := by rw [wsi (by omega)]; omega
  have hfar : IntKind.wrap .i64 (((i + 1 : Nat) : Int) + skip) = ((i + 1 + skip.toNat : Nat) : Int) := by rw [wsi (by omega)]; omega
  rw [wsi (n := h - tkn op) (by omega), wsi (n := h - tkn op + lyn op) (by omega), wsi (n := s + 1) (by omega), hskip, hfar]
  by_cases k4 : op < 15
  · rw [bif_t (decide_eq_true k4), bif_ne]
    by_cases k4b : skip = 0
    rotate_left
    · rw [if_neg k4b, if_pos (show op < 15 ∧ skip ≠ 0 from ⟨by omega, k4b⟩)]
    rw [if_pos k4b, if_neg (show ¬ (op < 15 ∧ skip ≠ 0) by omega)]
    by_cases k5 : h < tkn op
    · rw [bif_t (decide_eq_true k5), if_pos k5]
    rw [bif_f (decide_eq_false k5), if_neg k5]
    by_cases k6 : h - tkn op + lyn op > 1024
    · rw [bif_t (decide_eq_true k6), if_pos k6]
    rw [bif_f (decide_eq_false k6), if_neg k6]
    by_cases k7 : (i : Int) + 1 + skip > (code.length : Int)
    · rw [bif_t (decide_eq_true (by omega)), if_pos k7]
    rw [bif_f (decide_eq_false (by omega)), if_neg k7, bif_ne, if_neg (show ¬ op = 15 by omega), if_neg (show ¬ op = 15 by omega), hr pl most _ _ _ (by omega)]
    simp only [Option.bind_some]
    generalize rch pl most (i + 1) (h - tkn op + lyn op) (s + 1) = y at *
    obtain ⟨y0, y1, y2⟩ := y
    simp only []
    rw [bif_ne]
    by_cases k9 : y0 = 0
    · rw [if_pos k9, bif_f (decide_eq_false (by omega)), if_neg (by omega), if_pos k4, k9]
    · rw [if_neg k9, if_pos k9]
  · rw [bif_f (decide_eq_false k4)]
    rw [if_neg (show ¬ (op < 15 ∧ skip ≠ 0) by omega)]
    by_cases k5 : h < tkn op
    · rw [bif_t (decide_eq_true k5), if_pos k5]
    rw [bif_f (decide_eq_false k5), if_neg k5]
    by_cases k6 : h - tkn op + lyn op > 1024
    · rw [bif_t (decide_eq_true k6), if_pos k6]
    rw [bif_f (decide_eq_false k6), if_neg k6]
    by_cases k7 : (i : Int) + 1 + skip > (code.length : Int)
    · rw [bif_t (decide_eq_true (by omega)), if_pos k7]
    rw [bif_f (decide_eq_false (by omega)), if_neg k7, bif_ne, bif_t (decide_eq_true (show op ≥ 15 by omega))]
    by_cases k8 : op = 15
    · rw [if_pos k8, if_pos k8, hr pl most _ _ _ (by omega)]
      rfl
    · rw [if_neg k8, if_neg k8, hr pl most _ _ _ (by omega)]
      simp only [Option.bind_some]
      have hl1 := rch_len pl most (i + 1) (h - tkn op + lyn op) (s + 1)
      have hs1 := hset (h - tkn op + lyn op) (s + 1)
      generalize rch pl most (i + 1) (h - tkn op + lyn op) (s + 1) = y at *
      obtain ⟨y0, y1, y2⟩ := y
      simp only [] at hl1 hs1 ⊢
      rw [bif_ne]
      by_cases k9 : y0 = 0
      · rw [if_pos k9, if_neg (by omega), if_neg (by omega), bif_t (decide_eq_true (show op ≥ 15 by omega)), hb _ (show i < (y1.map (·.2)).length by simp; omega)]
        simp only [Option.bind_some, cond_true, List.getElem?_map]
        rw [hs1]
        simp only [Option.map_some, Option.bind_some]
        rw [wsi (n := s + 1) (by omega), hr y1 y2 _ _ _ (by omega)]
        rfl
      · rw [if_neg k9, if_pos k9]
end
end Go.Proofs.YtaalnjfmcjdimaaGreat.E
/-
  Which programs may run: what the two provers answer, whole. No condition but the sizes that any machine's memory has.
-/
namespace Go.Proofs.YtaalnjfmcjdimaaGreat.E
open Go
set_option linter.unusedVariables false
set_option linter.unusedSimpArgs false
set_option maxRecDepth 100000
theorem mem_set {γ : Type} {l : List γ} {i : Nat} {a x : γ} (h : x ∈ l.set i a) : x ∈ l ∨ x = a := List.mem_or_eq_of_mem_set h
theorem rch_rg {p : Prg} {pl : Pl} {most h s : Int} {i j : Nat} (R : Rg p pl most i) (hh : 0 ≤ h ∧ h ≤ 1024) (hs : 0 ≤ s ∧ s ≤ (i : Int) + 1) : Rg p (rch pl most j h s).2.1 (rch pl most j h s).2.2 (i + 1) := by
  have up : ∀ x ∈ pl, (-1 ≤ x.1 ∧ x.1 ≤ 1024) ∧ (0 ≤ x.2 ∧ x.2 ≤ ((i + 1 : Nat) : Int)) := fun x hx => by have := R.hs x hx; omega
  unfold rch
  split
  · exact ⟨R.len, R.n, R.ins, up, R.m⟩
  · refine ⟨by rw [List.length_set]; exact R.len, R.n, R.ins, fun x hx => ?_, ?_⟩
    · rcases mem_set hx with hx | rfl
      · exact up x hx
      · have : 0 ≤ (pl.getD j (-1, 0)).2 ∧ (pl.getD j (-1, 0)).2 ≤ (i : Int) := by
          by_cases hj : j < pl.length
          · rw [getD_at hj]; exact (R.hs _ (List.getElem_mem hj)).2
          · rw [List.getD_eq_getElem?_getD, List.getElem?_eq_none (by omega)]
            simp
        simp only [mx]
        split <;> omega
    · have := R.m
      simp only [mx]
      split <;> omega
theorem rch_rg2 {p : Prg} {pl : Pl} {most h s : Int} {i j : Nat} (R : Rg p pl most (i + 1)) (hh : 0 ≤ h ∧ h ≤ 1024) (hs : 0 ≤ s ∧ s ≤ (i : Int) + 1) : Rg p (rch pl most j h s).2.1 (rch pl most j h s).2.2 (i + 1) := by
  unfold rch
  split
  · exact R
  · refine ⟨by rw [List.length_set]; exact R.len, R.n, R.ins, fun x hx => ?_, ?_⟩
    · rcases mem_set hx with hx | rfl
      · exact R.hs x hx
      · have : 0 ≤ (pl.getD j (-1, 0)).2 ∧ (pl.getD j (-1, 0)).2 ≤ ((i + 1 : Nat) : Int) := by
          by_cases hj : j < pl.length
          · rw [getD_at hj]; exact (R.hs _ (List.getElem_mem hj)).2
          · rw [List.getD_eq_getElem?_getD, List.getElem?_eq_none (by omega)]
            simp
            omega
        simp only [mx]
        split <;> omega
    · have := R.m
      simp only [mx]
      split <;> omega
theorem stp_rg {p : Prg} {pl : Pl} {most : Int} {i : Nat} (R : Rg p pl most i) (hi : i < p.2.2.2.2.2.length) : Rg p (stp p pl most i).2.1 (stp p pl most i).2.2 (i + 1) := by
  have hip : i < pl.length := by have := R.len; omega
  have hx := R.hs pl[i] (List.getElem_mem hip)
  have up : Rg p pl most (i + 1) := ⟨R.len, R.n, R.ins, fun x hx => by have := R.hs x hx; omega, R.m⟩
  unfold stp
  rw [getD_at hip, getD_at hi]
  have tk := tkn_in p.2.2.2.2.2[i].1
  have ly := lyn_in p.2.2.2.2.2[i].1
  split
  · exact up
  split
  · exact up
  split
  · exact up
  split
  · exact up
  split
  · exact up
  split
  · exact up
  split
  · exact up
  have hh : 0 ≤ pl[i].1 - tkn p.2.2.2.2.2[i].1 + lyn p.2.2.2.2.2[i].1 ∧ pl[i].1 - tkn p.2.2.2.2.2[i].1 + lyn p.2.2.2.2.2[i].1 ≤ 1024 := by omega
  have hs : 0 ≤ pl[i].2 + 1 ∧ pl[i].2 + 1 ≤ (i : Int) + 1 := by omega
  split
  · exact rch_rg R hh hs
  split
  · exact rch_rg R hh hs
  split
  · exact rch_rg R hh hs
  · exact rch_rg2 (rch_rg R hh hs) hh hs
def vrun (p : Prg) : Nat → Nat → Pl → Int → Int × Pl × Int
  | 0, _, pl, most => (0, pl, most)
  | m + 1, i, pl, most => if (stp p pl most i).1 ≠ 0 then stp p pl most i else vrun p m (i + 1) (stp p pl most i).2.1 (stp p pl most i).2.2
def pl0 (n : Nat) : Pl := (0, 0) :: List.replicate n (-1, 0)
def vend (n : Nat) (x : Int × Pl × Int) : (Int × Int) × Int × Unit :=
  if x.1 ≠ 0 then ((0, 0), x.1, ()) else if (x.2.1.getD n (-1, 0)).1 < 0 then ((0, 0), 172, ()) else if (x.2.1.getD n (-1, 0)).1 ≠ 1 then ((0, 0), 171, ()) else (((x.2.1.getD n (-1, 0)).2, x.2.2), 0, ())
def vshape (p : Prg) : (Int × Int) × Int × Unit := vend p.2.2.2.2.2.length (vrun p p.2.2.2.2.2.length 0 (pl0 p.2.2.2.2.2.length) 0)
def vans (b : List Int) : (Int × Int) × Int × Unit := if (decans b).2.1 ≠ 0 then ((0, 0), (decans b).2.1, ()) else vshape (decans b).1
theorem Rg.start {p : Prg} (hc : chk p = 0) : Rg p (pl0 p.2.2.2.2.2.length) 0 0 := by
  have f := (chk_fit hc).d
  refine ⟨by simp [pl0], f, (chk_more hc).2.2, fun x hx => ?_, by omega⟩
  unfold pl0 at hx
  rcases List.mem_cons.1 hx with rfl | hx
  · simp
  · rw [(List.mem_replicate.1 hx).2]
    simp
theorem vrun_len {p : Prg} : ∀ (m i : Nat) (pl : Pl) (most : Int), Rg p pl most i → i + m ≤ p.2.2.2.2.2.length → (vrun p m i pl most).2.1.length = p.2.2.2.2.2.length + 1
  | 0, i, pl, most, R, h => R.len
  | m + 1, i, pl, most, R, h => by
    unfold vrun
    split
    · exact (stp_rg R (by omega)).len
    · exact vrun_len m (i + 1) _ _ (stp_rg R (by omega)) (by omega)
section
variable {p : Prg} (z : Int × Int × Unit)
theorem e_run : ∀ (m i : Nat) (pl : Pl) (most : Int), Rg p pl most i → i + m = p.2.2.2.2.2.length →
    itr R19_2 (m + 1) (z, (p.1, p.2.1, p.2.2.1, p.2.2.2.1, p.2.2.2.2.1, p.2.2.2.2.2, ()), (p, pl, most, ()), (p.2.2.2.2.2.length : Int), (i : Int), ()) =
      some (if (vrun p m i pl most).1 ≠ 0 then .inr ((0, 0, ()), (vrun p m i pl most).1, ()) else .inl (z, (p.1, p.2.1, p.2.2.1, p.2.2.2.1, p.2.2.2.2.1, p.2.2.2.2.2, ()), (p, (vrun p m i pl most).2.1, (vrun p m i pl most).2.2, ()), ()))
  | 0, i, pl, most, R, h => by
    obtain ⟨z0, z1, ⟨⟩⟩ := z
    obtain ⟨mode, scale, sizes, consts, scales, code⟩ := p
    refine itr_out ?_
    unfold R19_2 Q19_2
    simp only [] at h ⊢
    rw [bif_f (decide_eq_false (by omega))]
    rfl
  | m + 1, i, pl, most, R, h => by
    have e := eOne R (by omega)
    have R1 := stp_rg R (show i < p.2.2.2.2.2.length by omega)
    have ih := fun pl' most' R' => e_run m (i + 1) pl' most' R' (by omega)
    have hn := R.n
    unfold vrun
    generalize stp p pl most i = y at *
    obtain ⟨y0, y1, y2⟩ := y
    obtain ⟨z0, z1, ⟨⟩⟩ := z
    obtain ⟨mode, scale, sizes, consts, scales, code⟩ := p
    simp only [] at h e R1 ih hn ⊢
    by_cases hy : y0 = 0
    · rw [if_neg (show ¬ y0 ≠ 0 by omega)]
      rw [← ih y1 y2 R1]
      refine itr_in ?_
      unfold R19_2 Q19_2
      simp only []
      rw [bif_t (decide_eq_true (by omega)), e]
      simp only [Option.bind_some]
      rw [bif_ne, if_pos hy, wsi (n := (i : Int) + 1) (by omega)]
      rfl
    · rw [if_pos hy]
      simp only []
      rw [if_pos hy]
      refine itr_out ?_
      unfold R19_2 Q19_2
      simp only []
      rw [bif_t (decide_eq_true (by omega)), e]
      simp only [Option.bind_some]
      rw [bif_ne, if_neg hy]
theorem r_run : ∀ (m i : Nat) (pl : Pl) (most : Int), Rg p pl most i → i + m = p.2.2.2.2.2.length →
    itr R12_2 (m + 1) (z, (p.1, p.2.1, p.2.2.1, p.2.2.2.1, p.2.2.2.2.1, p.2.2.2.2.2, ()), (pl.map (·.1), pl.map (·.2), most, ()), (i : Int), ()) =
      some (if (vrun p m i pl most).1 ≠ 0 then .inr ((0, 0, ()), (vrun p m i pl most).1, ()) else .inl (z, (p.1, p.2.1, p.2.2.1, p.2.2.2.1, p.2.2.2.2.1, p.2.2.2.2.2, ()), ((vrun p m i pl most).2.1.map (·.1), (vrun p m i pl most).2.1.map (·.2), (vrun p m i pl most).2.2, ()), ()))
  | 0, i, pl, most, R, h => by
    obtain ⟨z0, z1, ⟨⟩⟩ := z
    obtain ⟨mode, scale, sizes, consts, scales, code⟩ := p
    refine itr_out ?_
    unfold R12_2 Q12_2
    simp only [] at h ⊢
    rw [bif_f (decide_eq_false (by omega))]
    rfl
  | m + 1, i, pl, most, R, h => by
    have e := rOne R (by omega)
    have R1 := stp_rg R (show i < p.2.2.2.2.2.length by omega)
    have ih := fun pl' most' R' => r_run m (i + 1) pl' most' R' (by omega)
    have hn := R.n
    unfold vrun
    generalize stp p pl most i = y at *
    obtain ⟨y0, y1, y2⟩ := y
    obtain ⟨z0, z1, ⟨⟩⟩ := z
    obtain ⟨mode, scale, sizes, consts, scales, code⟩ := p
    simp only [] at h e R1 ih hn ⊢
    by_cases hy : y0 = 0
    · rw [if_neg (show ¬ y0 ≠ 0 by omega)]
      rw [← ih y1 y2 R1]
      refine itr_in ?_
      unfold R12_2 Q12_2
      simp only []
      rw [bif_t (decide_eq_true (by omega)), e]
      simp only [Option.bind_some]
      rw [bif_ne, if_pos hy, wsi (n := (i : Int) + 1) (by omega)]
      rfl
    · rw [if_pos hy]
      simp only []
      rw [if_pos hy]
      refine itr_out ?_
      unfold R12_2 Q12_2
      simp only []
      rw [bif_t (decide_eq_true (by omega)), e]
      simp only [Option.bind_some]
      rw [bif_ne, if_neg hy]
theorem e_fill (zp : Int × Int × List Int × List (Int × Int) × List (List (Int × Int)) × List (Int × Int × Int) × Unit) (n : Nat) (hn : n ≤ 8193) : itrs R19_0 (z, zp, (p, List.replicate n (0, 0), 0, ()), (n : Int), 0, ()) = some (z, zp, (p, List.replicate n (-1, 0), 0, ()), ()) := by
  obtain ⟨z0, z1, ⟨⟩⟩ := z
  obtain ⟨q0, q1, q2, q3, q4, q5, ⟨⟩⟩ := zp
  obtain ⟨mode, scale, sizes, consts, scales, code⟩ := p
  refine itrs_seq (fun j => ((z0, z1, ()), (q0, q1, q2, q3, q4, q5, ()), ((mode, scale, sizes, consts, scales, code), List.replicate j (-1, 0) ++ List.replicate (n - j) (0, 0), 0, ()), (n : Int), (j : Int), ())) n (by simp) (fun j hj => ?_) ?_ (by omega)
  · have hl : (List.replicate j ((-1 : Int), (0 : Int)) ++ List.replicate (n - j) (0, 0)).length = n := by simp; omega
    have hg : (List.replicate j ((-1 : Int), (0 : Int)) ++ List.replicate (n - j) (0, 0))[j]? = some (0, 0) := by
      rw [List.getElem?_append_right (by simp), List.length_replicate, Nat.sub_self, show n - j = (n - (j + 1)) + 1 from by omega, List.replicate_succ]
      rfl
    have hset : (List.replicate j ((-1 : Int), (0 : Int)) ++ List.replicate (n - j) (0, 0)).set j (-1, 0) = List.replicate (j + 1) (-1, 0) ++ List.replicate (n - (j + 1)) (0, 0) := by
      rw [List.set_append_right _ _ (by simp), List.length_replicate, Nat.sub_self, show n - j = (n - (j + 1)) + 1 from by omega, List.replicate_succ, List.set_cons_zero, List.replicate_succ', List.append_assoc]
      rfl
    unfold R19_0 Q19_0
    simp only []
    rw [bif_t (decide_eq_true (show (j : Int) < (n : Int) by omega)), hl, bif_t (show (decide (0 ≤ (j : Int)) && decide ((j : Int) < (n : Int))) = true from by rw [decide_eq_true (show 0 ≤ (j : Int) by omega), decide_eq_true (show (j : Int) < (n : Int) by omega)]; rfl)]
    simp only [Option.bind_some, Int.toNat_natCast]
    rw [hg]
    simp only [Option.bind_some]
    rw [hset, wsi (by omega)]
    rfl
  · unfold R19_0 Q19_0
    simp only []
    rw [bif_f (decide_eq_false (by omega)), Nat.sub_self, List.replicate_zero, List.append_nil]
theorem r_fill (hn : p.2.2.2.2.2.length ≤ 8192) : itrs R12_0 (z, (p.1, p.2.1, p.2.2.1, p.2.2.2.1, p.2.2.2.2.1, p.2.2.2.2.2, ()), ([0], [0], 0, ()), 0, ()) = some (z, (p.1, p.2.1, p.2.2.1, p.2.2.2.1, p.2.2.2.2.1, p.2.2.2.2.2, ()), ((pl0 p.2.2.2.2.2.length).map (·.1), (pl0 p.2.2.2.2.2.length).map (·.2), 0, ()), ()) := by
  obtain ⟨z0, z1, ⟨⟩⟩ := z
  obtain ⟨mode, scale, sizes, consts, scales, code⟩ := p
  simp only [] at hn ⊢
  refine itrs_seq (fun j => ((z0, z1, ()), (mode, scale, sizes, consts, scales, code, ()), (0 :: List.replicate j (-1), 0 :: List.replicate j 0, 0, ()), (j : Int), ())) code.length (by simp) (fun j hj => ?_) ?_ (by omega)
  · unfold R12_0 Q12_0
    simp only []
    rw [bif_t (decide_eq_true (by omega)), bif_t (decide_eq_true (by simp; omega))]
    simp only [Option.bind_some]
    rw [bif_t (decide_eq_true (by simp; omega))]
    simp only [Option.bind_some]
    rw [wsi (by omega), List.replicate_succ', List.replicate_succ']
    rfl
  · unfold R12_0 Q12_0
    simp only []
    rw [bif_f (decide_eq_false (by omega))]
    simp [pl0]
end
theorem decans_two {b : List Int} (hb : Bs b) : ∃ p e, decans b = (p, e, ()) ∧ (e = 0 → chk p = 0) ∧ (e = 0 ∨ e = 160) := by
  rcases decans_cases hb with h | ⟨p, h, hc, _⟩
  · exact ⟨_, _, h, (fun e => (by cases e)), .inr rfl⟩
  · exact ⟨_, _, h, fun _ => hc, .inl rfl⟩
theorem eVerify {b : List Int} (hb : Bl b) : N19 (b, ()) = some (vans b) := by
  obtain ⟨p, e, hd, hc, _⟩ := decans_two hb.1
  have e1 := eDecode hb
  unfold vans
  rw [hd] at e1 ⊢
  simp only []
  by_cases he : e = 0
  · have hc := hc he
    have R := Rg.start hc
    have hn := R.n
    have F := e_fill (p := p) (0, 0, ()) (p.1, p.2.1, p.2.2.1, p.2.2.2.1, p.2.2.2.2.1, p.2.2.2.2.2, ()) (p.2.2.2.2.2.length + 1) (by omega)
    have L := itrs_of (e_run (p := p) (0, 0, ()) p.2.2.2.2.2.length 0 (pl0 p.2.2.2.2.2.length) 0 R (by omega)) (by omega)
    have hl := vrun_len (p := p) p.2.2.2.2.2.length 0 (pl0 p.2.2.2.2.2.length) 0 R (by omega)
    rw [if_neg (show ¬ e ≠ 0 by omega)]
    unfold vshape vend
    generalize vrun p p.2.2.2.2.2.length 0 (pl0 p.2.2.2.2.2.length) 0 = y at *
    obtain ⟨y0, y1, y2⟩ := y
    clear R hc hd
    obtain ⟨mode, scale, sizes, consts, scales, code⟩ := p
    simp only [] at F L hn hl ⊢
    unfold N19 M19
    simp only []
    rw [e1]
    simp only [Option.bind_some]
    rw [bif_ne, if_pos he, wsi (n := (code.length : Int) + 1) (by omega), show (code.length : Int) + 1 = ((code.length + 1 : Nat) : Int) from by omega]
    rw [bif_t]
    rotate_left
    · rw [decide_eq_true (show 0 ≤ ((code.length + 1 : Nat) : Int) by omega), decide_eq_true (show Int.toNat ((code.length + 1 : Nat) : Int) * 16 ≤ 140737488355328 by omega), decide_eq_true (show ((code.length + 1 : Nat) : Int) ≤ 9223372036854775807 by omega)]
      simp
    simp only [Option.bind_some, Int.toNat_natCast, List.length_replicate]
    rw [F]
    simp only [Option.bind_some]
    rw [bif_t (show (true && decide (0 < ((List.replicate (code.length + 1) ((-1 : Int), (0 : Int))).length : Int))) = true from by simp)]
    simp only [Option.bind_some, List.replicate_succ, List.getElem?_cons_zero, List.set_cons_zero]
    rw [show ((0 : Int), (0 : Int)) :: List.replicate code.length (-1, 0) = pl0 code.length from rfl]
    rw [show ((0 : Nat) : Int) = 0 from rfl] at L
    rw [L]
    simp only [Option.bind_some]
    by_cases hy : y0 = 0
    · rw [if_neg (show ¬ y0 ≠ 0 by omega), if_neg (show ¬ y0 ≠ 0 by omega)]
      simp only []
      rw [bif_t (show (true && decide ((code.length : Int) < (y1.length : Int))) = true from by rw [decide_eq_true (show (code.length : Int) < (y1.length : Int) by omega)]; rfl)]
      have hlt : code.length < y1.length := by omega
      simp only [Option.bind_some, Int.toNat_natCast]
      rw [List.getElem?_eq_getElem hlt, getD_at hlt]
      simp only [Option.bind_some]
      rw [bif_p, bif_ne]
      split
      · rfl
      · by_cases h1 : y1[code.length].1 = 1
        · rw [if_pos h1, if_neg (show ¬ y1[code.length].1 ≠ 1 by omega)]
        · rw [if_neg h1, if_pos h1]
    · rw [if_pos hy, if_pos hy]
  · rw [if_pos he]
    obtain ⟨mode, scale, sizes, consts, scales, code⟩ := p
    unfold N19 M19
    simp only []
    rw [e1]
    simp only [Option.bind_some]
    rw [bif_ne, if_neg he]
theorem rVerify {b : List Int} (hb : Bl b) : N12 (b, ()) = some (vans b) := by
  obtain ⟨p, e, hd, hc, _⟩ := decans_two hb.1
  have e1 := rDecode hb
  unfold vans
  rw [hd] at e1 ⊢
  simp only []
  by_cases he : e = 0
  · have hc := hc he
    have R := Rg.start hc
    have hn := R.n
    have F := r_fill (p := p) (0, 0, ()) hn
    have L := itrs_of (r_run (p := p) (0, 0, ()) p.2.2.2.2.2.length 0 (pl0 p.2.2.2.2.2.length) 0 R (by omega)) (by omega)
    have hl := vrun_len (p := p) p.2.2.2.2.2.length 0 (pl0 p.2.2.2.2.2.length) 0 R (by omega)
    rw [if_neg (show ¬ e ≠ 0 by omega)]
    unfold vshape vend
    generalize vrun p p.2.2.2.2.2.length 0 (pl0 p.2.2.2.2.2.length) 0 = y at *
    obtain ⟨y0, y1, y2⟩ := y
    clear R hc hd
    obtain ⟨mode, scale, sizes, consts, scales, code⟩ := p
    simp only [] at F L hn hl ⊢
    unfold N12 M12
    simp only []
    rw [e1]
    simp only [Option.bind_some]
    rw [bif_ne, if_pos he, F]
    simp only [Option.bind_some]
    rw [show ((0 : Nat) : Int) = 0 from rfl] at L
    rw [L]
    simp only [Option.bind_some]
    by_cases hy : y0 = 0
    · rw [if_neg (show ¬ y0 ≠ 0 by omega), if_neg (show ¬ y0 ≠ 0 by omega)]
      simp only []
      have hlt : code.length < y1.length := by omega
      rw [List.length_map, List.length_map, bif_t (show (true && decide ((code.length : Int) < (y1.length : Int))) = true from by rw [decide_eq_true (show (code.length : Int) < (y1.length : Int) by omega)]; rfl)]
      simp only [Option.bind_some, Int.toNat_natCast, List.getElem?_map]
      rw [List.getElem?_eq_getElem hlt, getD_at hlt]
      simp only [Option.bind_some, Option.map_some]
      rw [bif_p, bif_ne]
      split
      · rfl
      · by_cases h1 : y1[code.length].1 = 1
        · rw [if_pos h1, if_neg (show ¬ y1[code.length].1 ≠ 1 by omega)]
        · rw [if_neg h1, if_pos h1]
    · rw [if_pos hy, if_pos hy]
  · rw [if_pos he]
    obtain ⟨mode, scale, sizes, consts, scales, code⟩ := p
    unfold N12 M12
    simp only []
    rw [e1]
    simp only [Option.bind_some]
    rw [bif_ne, if_neg he]
end Go.Proofs.YtaalnjfmcjdimaaGreat.E
