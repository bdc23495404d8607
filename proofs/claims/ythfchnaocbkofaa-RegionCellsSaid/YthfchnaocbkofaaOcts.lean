/- Slices of bytes as arguments. -/
import Derived.Test.YthfchnaocbkofaaEngL
set_option linter.unusedSimpArgs false
set_option linter.unusedVariables false
namespace Go.Proofs.Ythfchnaocbkofaa
open Go.Eng

/-- A slice of bytes as an argument. -/
def Octs (w : World) (v : Value) (xs : List Int) : Prop :=
  ∃ (a : Option Addr) (n c : Nat), v = .slice a n c ∧ n = xs.length ∧ n ≤ c ∧ n ≤ 9223372036854775807 ∧ (∀ i, 0 ≤ xs.getD i 0 ∧ xs.getD i 0 ≤ 255) ∧ (n = 0 ∨ ∃ b off, a = some ⟨b, off, none⟩ ∧ ∀ i, i < n → wcell w b (off + i) = some (.int .u8 (xs.getD i 0)))
end Go.Proofs.Ythfchnaocbkofaa
