/-
  Arguments of plain types, opened.
-/
import Derived.Test.YtbplbpdfpcocgaaB8Row
import Derived.Test.YtbplbpdfpcocgaaC2Quota
set_option linter.all false
namespace Go.Proofs.Ytbplbpdfpcocgaa
open Go Go.Sx Go.RowKit

theorem decI {n : Nat} {r : List D} (h : ShD tt n 3 r) : ∃ i, r = encI i ∧ inR .i64 i := by
  match n, h with
  | n + 1, ⟨i, h, hi⟩ => exact ⟨i, h, hi⟩
theorem decIS {n : Nat} {r : List D} (h : ShD tt n 24 r) : ∃ l : List Int, r = [slI l] ∧ ∀ i ∈ l, inR .i64 i := by
  match n, h with
  | n + 1, ⟨rows, h, _, hr⟩ =>
    obtain ⟨l, rfl, hl⟩ := rows_map encI (inR .i64) (fun r h => decI (hr r h))
    exact ⟨l, h, hl⟩
theorem decS {n : Nat} {r : List D} (h : ShD tt n 9 r) : ∃ s : ByteArray, r = [sv s] ∧ s.size ≤ maxLen := by
  match n, h with
  | n + 1, ⟨s, h, hs⟩ => exact ⟨s, h, hs⟩
theorem decB {n : Nat} {r : List D} (h : ShD tt n 4 r) : ∃ b : Bool, r = [bv b] := by
  match n, h with
  | n + 1, ⟨b, h⟩ => exact ⟨b, h⟩
end Go.Proofs.Ytbplbpdfpcocgaa
