/-
  The law's own function, by its contract, answers true for all words. No condition beyond the words' own bounds.
-/
import Derived.Test.YtieeaicdpdidpaaQTimesRefused
namespace Go.Proofs.Ytieeaicdpdidpaa.PTimesRefused
open Go.RowKit

theorem TimesRefused_pure : TimesRefused.Pure := fun _ _ h0 h1 => if_pos ⟨h0, h1⟩

end Go.Proofs.Ytieeaicdpdidpaa.PTimesRefused
