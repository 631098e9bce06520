/- What structured fields ask for, as plain data: no program in sight. -/
import Derived.Test.YtcibhchbgendaabSfPure
namespace Go.Proofs.Ytcibhchbgendaab.Sf

/-- what is asked for -/
structure A where
  kind : Int
  command : Int
  mode : Int
  alt : Bool
  req : Nat
  codes : List Nat
  rc : List Nat
def A0 : A := ⟨0, 0, 0, false, 0, [], []⟩
def sameA (a b : A) : Bool := decide (a.kind = b.kind) && decide (a.command = b.command) && decide (a.mode = b.mode) && (a.alt == b.alt) && decide (a.req = b.req) && decide (a.codes = b.codes) && decide (a.rc = b.rc)
theorem sameA_iff (a b : A) : sameA a b = true ↔ a = b := by
  cases a; cases b
  simp [sameA, and_assoc]
theorem sameA_refl (a : A) : sameA a a = true := (sameA_iff a a).2 rfl

/-- the commands' bytes: the ones, the others -/
def cmd18 : List Nat := [3, 1, 5, 13, 15, 2, 6, 14, 17, 3, 241, 245, 126, 111, 242, 246, 110, 243]
/-- which command a byte is; -1: none -/
def cmdOf (b : Nat) : Int := if cmd18.idxOf b < 18 then ((cmd18.idxOf b % 9 : Nat) : Int) else -1
/-- a command's byte -/
def byteOf (c : Int) : Nat := if c < 0 then 0 else if 8 < c then 0 else cmd18.getD (9 + c.toNat) 0
theorem cmdOf_range (b : Nat) : -1 ≤ cmdOf b ∧ cmdOf b ≤ 8 := by
  unfold cmdOf
  split <;> omega
theorem byteOf_lt (c : Int) : byteOf c < 256 := by
  unfold byteOf
  split
  · decide
  · split
    · decide
    · have : c = 0 ∨ c = 1 ∨ c = 2 ∨ c = 3 ∨ c = 4 ∨ c = 5 ∨ c = 6 ∨ c = 7 ∨ c = 8 := by omega
      rcases this with rfl | rfl | rfl | rfl | rfl | rfl | rfl | rfl | rfl <;> decide

/-- an act of the partition that it is for -/
def partOf (a : A) (p0 part : Nat) : A × Int := if p0 = part then (a, 0) else (A0, 1)
def aQuery : A := ⟨1, 0, 0, false, 0, [], []⟩
def aList (r : Nat) (l : List Nat) : A := ⟨2, 0, 0, false, r, l, []⟩
def aRead (c : Int) : A := ⟨3, c, 0, false, 0, [], []⟩
def aErase (b : Bool) : A := ⟨4, 0, 0, b, 0, [], []⟩
def aMode (m : Int) : A := ⟨5, 0, m, false, 0, [], []⟩
def aPart (k : Int) : A := ⟨k, 0, 0, false, 0, [], []⟩
def aOut (l : List Nat) : A := ⟨9, 0, 0, false, 0, [], l⟩

/-- the request of a Query List that may stand -/
def reqOk (r : Nat) : Prop := r = 0 ∨ r = 64 ∨ r = 128
instance (r : Nat) : Decidable (reqOk r) := by unfold reqOk; exact inferInstance
def isRead (c : Int) : Prop := 5 ≤ c ∧ c ≤ 7
instance (c : Int) : Decidable (isRead c) := by unfold isRead; exact inferInstance

def readsOf (p : List Nat) : A × Int :=
  if p.length < 2 then (A0, 4)
  else if p.getD 1 0 = 2 then (if p.length = 2 then partOf aQuery (p.getD 0 0) 255 else (A0, 4))
  else if p.getD 1 0 = 3 then (if 3 ≤ p.length then (if reqOk (p.getD 2 0) then partOf (aList (p.getD 2 0) (p.drop 3)) (p.getD 0 0) 255 else (A0, 4)) else (A0, 4))
  else if isRead (cmdOf (p.getD 1 0)) then (if p.length = 2 then partOf (aRead (cmdOf (p.getD 1 0))) (p.getD 0 0) 0 else (A0, 4))
  else (A0, 4)
def erasesOf (p : List Nat) : A × Int :=
  if p.length = 1 then (if p.getD 0 0 = 0 then (aErase false, 0) else if p.getD 0 0 = 128 then (aErase true, 0) else (A0, 4)) else (A0, 4)
def setsOf (p : List Nat) : A × Int :=
  if p.length < 2 then (A0, 4)
  else if 2 < p.getD 1 0 then (A0, 4)
  else if p.getD 1 0 < 2 ∧ 2 < p.length then (A0, 4)
  else partOf (aMode ((p.getD 1 0 : Nat) : Int)) (p.getD 0 0) 0
def partsOf (k : Int) (p : List Nat) : A × Int :=
  if p.length < 1 then (A0, 4)
  else if k ≠ 6 ∧ 1 < p.length then (A0, 4)
  else partOf (aPart k) (p.getD 0 0) 0
def outsOf (p : List Nat) : A × Int :=
  if p.length < 2 then (A0, 4)
  else if 0 ≤ cmdOf (p.getD 1 0) ∧ cmdOf (p.getD 1 0) ≤ 4 then partOf (aOut (p.drop 1)) (p.getD 0 0) 0
  else (A0, 4)
/-- what a field asks for; or the error -/
def actOf (id : Nat) (p : List Nat) : A × Int :=
  if id = 1 then readsOf p
  else if id = 3 then erasesOf p
  else if id = 9 then setsOf p
  else if id = 12 then partsOf 6 p
  else if id = 13 then partsOf 7 p
  else if id = 14 then partsOf 8 p
  else if id = 64 then outsOf p
  else (A0, 10)

/-- with the fields of its kind alone -/
def plainOf (a : A) : A :=
  if a.kind = 2 then aList a.req a.codes
  else if a.kind = 3 then aRead a.command
  else if a.kind = 4 then aErase a.alt
  else if a.kind = 5 then aMode a.mode
  else if a.kind = 9 then aOut a.rc
  else aPart a.kind
/-- the data of an act -/
def idOf (a : A) : Nat :=
  if a.kind = 1 ∨ a.kind = 2 ∨ a.kind = 3 then 1 else if a.kind = 4 then 3 else if a.kind = 5 then 9 else if a.kind = 6 then 12 else if a.kind = 7 then 13 else if a.kind = 8 then 14 else 64
def dataOf (a : A) : List Nat :=
  if a.kind = 1 then [255, 2]
  else if a.kind = 2 then [255, 3, a.req] ++ a.codes
  else if a.kind = 3 then [0, byteOf a.command]
  else if a.kind = 4 then (if a.alt then [128] else [0])
  else if a.kind = 5 then [0, (a.mode % 256).toNat]
  else if a.kind = 9 then [0] ++ a.rc
  else [0]
def isKind (k : Int) : Prop := 1 ≤ k ∧ k ≤ 9
instance (k : Int) : Decidable (isKind k) := by unfold isKind; exact inferInstance
/-- a field of an act; or the error -/
def makeOf (a : A) : (Nat × List Nat) × Int :=
  if isKind a.kind then (if (actOf (idOf a) (dataOf a)).2 = 0 ∧ sameA (actOf (idOf a) (dataOf a)).1 (plainOf a) = true then ((idOf a, dataOf a), 0) else ((0, []), 4)) else ((0, []), 1)
/-- do two acts of a kind say the same? -/
def toldOf (a b : A) : Bool :=
  if a.kind = 2 then decide (a.req = b.req) && decide (a.codes = b.codes)
  else if a.kind = 3 then decide (a.command = b.command)
  else if a.kind = 5 then decide (a.mode = b.mode)
  else if a.kind = 9 then decide (a.rc = b.rc)
  else true
/-- a field's bytes -/
def bytesOf (x : Nat × List Nat) : List Nat := [(3 + x.2.length) / 256 % 256, (3 + x.2.length) % 256, x.1] ++ x.2
/-- what all ask for, up to the first error, and that -/
def actsOf : List (Nat × List Nat) → Int → List A × Int
  | [], e => ([], e)
  | x :: l, e => if (actOf x.1 x.2).2 = 0 then ((actOf x.1 x.2).1 :: (actsOf l e).1, (actsOf l e).2) else ([], (actOf x.1 x.2).2)
/-- the bytes of a record behind its first; or the error -/
def recOf : List A → List Nat × Int
  | [] => ([], 0)
  | a :: l => if (makeOf a).2 = 0 then (if (recOf l).2 = 0 then (bytesOf (makeOf a).1 ++ (recOf l).1, 0) else ([], (recOf l).2)) else ([], (makeOf a).2)

theorem partOf_eq {a : A} {x y : Nat} (h : x = y) : partOf a x y = (a, 0) := if_pos h
theorem partOf_ne {a : A} {x y : Nat} (h : x ≠ y) : partOf a x y = (A0, 1) := if_neg h
end Go.Proofs.Ytcibhchbgendaab.Sf
