/- Digits to the base 16, as vitrineref01.Num reckons them: no program in sight. -/
import Derived.WalkKit
namespace Go.Proofs.Ytcibhchbgendaab.Rf
open Go Go.RowKit
/-- one digit, as the code reckons it -/
def dig (c : UInt8) : Int := if 97 ≤ (c.toNat : Int) then ((c.toNat : Int) - 97) % 256 + 10 else ((c.toNat : Int) - 48) % 256
/-- the digits behind n -/
def num : List UInt8 → Int → Int
  | [], n => n
  | c :: r, n => num r (wrap64 (wrap64 (16 * n) + dig c))
theorem num_snoc (l : List UInt8) (c : UInt8) (n : Int) : num (l ++ [c]) n = wrap64 (wrap64 (16 * num l n) + dig c) := by
  induction l generalizing n with
  | nil => rfl
  | cons x r ih => exact ih _
theorem take_snoc (s : ByteArray) (k : Nat) (h : k < s.size) : s.data.toList.take (k + 1) = s.data.toList.take k ++ [s[k]] := by
  rw [List.take_succ_eq_append_getElem (by simpa using h)]; rfl

end Go.Proofs.Ytcibhchbgendaab.Rf
