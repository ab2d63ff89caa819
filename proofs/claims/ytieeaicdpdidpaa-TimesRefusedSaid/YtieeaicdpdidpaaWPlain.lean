/-
  Plain facts on numbers of 128 bits as pairs of words: what a sum, a difference, an opposite answers as one number. No condition beyond the words' own bounds.
-/
import Derived.Test.YtieeaicdpdidpaaExt
import Derived.RowKit
import Derived.Laws.Bits64
namespace Go.Proofs.Ytieeaicdpdidpaa
open Go.RowKit

def wv (h l : Int) : Int := h * 18446744073709551616 + l
def WB (h l : Int) : Prop := (-9223372036854775808 ≤ h ∧ h ≤ 9223372036854775807) ∧ (0 ≤ l ∧ l ≤ 18446744073709551615)
def wans (v : Int) : Int × Int × Int :=
  if -170141183460469231731687303715884105728 ≤ v ∧ v ≤ 170141183460469231731687303715884105727 then (v / 18446744073709551616, v % 18446744073709551616, 0) else (0, 0, 10)

theorem wans_in {v : Int} (h : -170141183460469231731687303715884105728 ≤ v ∧ v ≤ 170141183460469231731687303715884105727) : wans v = (v / 18446744073709551616, v % 18446744073709551616, 0) := if_pos h
theorem wans_out {v : Int} (h : ¬ (-170141183460469231731687303715884105728 ≤ v ∧ v ≤ 170141183460469231731687303715884105727)) : wans v = (0, 0, 10) := if_neg h
theorem wans_WB (v : Int) : WB (wans v).1 (wans v).2.1 := by
  unfold wans WB
  split
  · refine ⟨⟨?_, ?_⟩, ?_, ?_⟩ <;> simp only <;> omega
  · simp
theorem wv_in {h l : Int} (b : WB h l) : -170141183460469231731687303715884105728 ≤ wv h l ∧ wv h l ≤ 170141183460469231731687303715884105727 := by
  unfold WB at b; unfold wv; omega
theorem wv_hi {h l : Int} (b : WB h l) : wv h l / 18446744073709551616 = h := by
  unfold WB at b; unfold wv; omega
theorem wv_lo {h l : Int} (b : WB h l) : wv h l % 18446744073709551616 = l := by
  unfold WB at b; unfold wv; omega
theorem wans_wv {h l : Int} (b : WB h l) : wans (wv h l) = (h, l, 0) := by
  rw [wans_in (wv_in b), wv_hi b, wv_lo b]
theorem wv_of (v : Int) : wv (v / 18446744073709551616) (v % 18446744073709551616) = v := by unfold wv; omega
theorem wv_inj {h l h' l' : Int} (b : WB h l) (b' : WB h' l') (e : wv h l = wv h' l') : h = h' ∧ l = l' := by
  unfold WB at b b'; unfold wv at e; omega

theorem u64_wrap (n : Int) : IntKind.u64.wrap n = n % 18446744073709551616 := IntKind.wrap_u64 n
theorem add64_hi {x y c : Int} (hx : 0 ≤ x) (hy : 0 ≤ y) (hc : 0 ≤ c) : add64Hi x y c = (x + y + c) / 18446744073709551616 := by unfold add64Hi; omega
theorem add64_lo {x y c : Int} (hx : 0 ≤ x) (hy : 0 ≤ y) (hc : 0 ≤ c) : add64Lo x y c = (x + y + c) % 18446744073709551616 := by unfold add64Lo; omega
theorem sub64_lo {x y c : Int} (hx : 0 ≤ x) (hy : 0 ≤ y ∧ y ≤ 18446744073709551615) (hc : 0 ≤ c ∧ c ≤ 1) : sub64Lo x y c = (x - y - c) % 18446744073709551616 := by unfold sub64Lo; omega
theorem sub64_hi {x y c : Int} (hx : 0 ≤ x ∧ x ≤ 18446744073709551615) (hy : 0 ≤ y ∧ y ≤ 18446744073709551615) (hc : 0 ≤ c ∧ c ≤ 1) : sub64Hi x y c = -((x - y - c) / 18446744073709551616) := by
  unfold sub64Hi; split <;> omega
end Go.Proofs.Ytieeaicdpdidpaa
