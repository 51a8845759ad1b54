import Derived.Test.YtgmdjhokcipajaaRecSectorW
import Derived.Test.YtgmdjhokcipajaaTlvR
set_option linter.unusedVariables false
namespace Go.Proofs.Ytgmdjhokcipajaa
open Go.RowKit
/-- A block of bytes is a row of its own. -/
theorem own8_of_bts {w : World} {g base : Nat} {l : List Int} (h : Bts w g 5 l) (hg : base ≤ g) (hl : l.length ≤ 140737488351232) : Own8 w base (.slice (some ⟨g, 0, none⟩) l.length l.length) l :=
  ⟨by simp [u8s], .inr ⟨g, l.length, (u8s l).toArray, rfl, hg, h, Nat.le_refl _, by unfold maxLen; omega, by simp [u8s], by simp [u8s, List.take_of_length_le]⟩⟩
end Go.Proofs.Ytgmdjhokcipajaa
