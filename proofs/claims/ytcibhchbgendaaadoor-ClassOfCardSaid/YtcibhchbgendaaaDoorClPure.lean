/- Classes of codes: no program in sight. -/
import Derived.Test.YtcibhchbgendaaaDoorPgPure2
namespace Go.Proofs.YtcibhchbgendaaaDoor.Cl
open Go.Proofs.YtcibhchbgendaaaDoor.Pg

/-- of a sign -/
def signedOf (s : Int) : Int := if (48 ≤ s ∧ s ≤ 57) then 5 else if (97 ≤ s ∧ s ≤ 122) ∨ (65 ≤ s ∧ s ≤ 90) then 6 else if 192 ≤ s ∧ s ≤ 255 ∧ s ≠ 215 ∧ s ≠ 247 then 6 else 7
/-- of a code -/
def classOf (k : Int) (c : Nat) : Int :=
  if c = 0 then 0 else if c = 12 ∨ c = 13 ∨ c = 21 ∨ c = 25 ∨ c = 28 ∨ c = 30 ∨ c = 63 then 1 else if c = 64 then 4 else if c = 255 then 2 else if c < 64 then 3 else signedOf (signOf k c)
theorem signedOf_range (s : Int) : 5 ≤ signedOf s ∧ signedOf s ≤ 7 := by
  unfold signedOf
  (repeat' split) <;> omega
theorem classOf_range (k : Int) (c : Nat) : 0 ≤ classOf k c ∧ classOf k c ≤ 7 := by
  have := signedOf_range (signOf k c)
  unfold classOf
  (repeat' split) <;> omega
def dataB (c : Nat) : Bool := decide (64 ≤ c) && decide (c < 255)
/-- does a sign stand for what goes into a numeric field -/
def numS (s : Int) : Bool := (decide (48 ≤ s) && decide (s ≤ 57)) || s == 46 || s == 45
def numericB (k : Int) (c : Nat) : Bool := c == 28 || (dataB c && numS (signOf k c))
def hiddenB (s : Int) : Bool := decide (s < 32) || (decide (127 ≤ s) && decide (s ≤ 159)) || s == 173
def shownOf (k : Int) (c : Nat) : Int :=
  if c = 28 then 42 else if c = 30 then 59 else if c = 63 then 191 else if dataB c = false then 32 else if hiddenB (signOf k c) then 32 else signOf k c
def designOf (k : Int) (c : Nat) : Int :=
  if c = 0 then 3 else if signOf k c = 63 then 1 else if signOf k c = 62 then 2 else if signOf k c = 32 then 3 else if signOf k c = 38 then 4 else 0
theorem shown_seen (k : Int) (c : Nat) : 32 ≤ shownOf k c ∧ (127 ≤ shownOf k c → ¬ shownOf k c ≤ 159) := by
  unfold shownOf
  (repeat' split) <;> simp_all [hiddenB] <;> omega
theorem numeric_data (k : Int) (c : Nat) (h : numericB k c = true) : dataB c = true ∨ c = 28 := by
  unfold numericB at h
  simp at h
  rcases h with h | h
  · exact .inr h
  · exact .inl h.1
end Go.Proofs.YtcibhchbgendaaaDoor.Cl
