/-
  The law's own function, by its contract, answers true for all words. No condition beyond the words' own bounds.
-/
import Derived.Test.YtieeaicdpdidpaaQTimesBack
namespace Go.Proofs.Ytieeaicdpdidpaa.PTimesBack
open Go.RowKit

theorem TimesBack_pure : TimesBack.Pure := fun a0 a1 h0 h1 => if_pos ⟨h0, h1⟩

end Go.Proofs.Ytieeaicdpdidpaa.PTimesBack
