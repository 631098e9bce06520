/- What a terminal says it is, as lists: no program in sight. -/
import Derived.Test.YtcibhchbgendaabSfLaw
namespace Go.Proofs.Ytcibhchbgendaab.Qy
open Go.Proofs.Ytcibhchbgendaab.Sf

def two (n : Nat) : List Nat := [n / 256 % 256, n % 256]
def codes7 : List Nat := [128, 129, 133, 134, 135, 136, 166]
/-- rows and columns of a model -/
def rowsOf (m : Nat) : Nat := if m = 2 then 24 else if m = 3 then 32 else if m = 4 then 43 else 27
def colsOf (m : Nat) : Nat := if m = 5 then 132 else 80
def colorList : List Nat := [241, 241, 242, 242, 243, 243, 244, 244, 245, 245, 246, 246, 247, 247]
/-- what a code says -/
def saysOf (c m k : Nat) : List Nat :=
  if c = 128 then codes7
  else if c = 129 then [1, 0] ++ (two (colsOf m) ++ (two (rowsOf m) ++ ([1, 0, 10, 2, 229, 0, 2, 0, 111, 9, 12] ++ two (rowsOf m * colsOf m))))
  else if c = 133 then [130, 0, 9, 12, 0, 0, 0, 0, 7, 0, 0, 0] ++ (two k ++ [2, 241, 3, 1, 54])
  else if c = 134 then [0, 8, 0, 244] ++ colorList
  else if c = 135 then [5, 0, 240, 241, 241, 242, 242, 244, 244, 248, 248]
  else if c = 136 then [0, 1, 2]
  else if c = 166 then [0, 0, 11, 1, 0, 0, 80, 0, 24] ++ (two (colsOf m) ++ two (rowsOf m))
  else []
/-- a reply's bytes -/
def replyOf (c m k : Nat) : List Nat := bytesOf (129, c :: saysOf c m k)
/-- of these codes -/
def someOf (l : List Nat) (m k : Nat) : List Nat := if l = [] then 136 :: bytesOf (129, [255]) else 136 :: l.flatMap fun c => replyOf c m k
def allOf (m k : Nat) : List Nat := someOf codes7 m k
/-- the replies' data in what came; or the error -/
def goodEl (x : Nat × List Nat) : Bool := x.1 == 129 && !x.2.isEmpty
def repliesOf (p : List Nat) : List (List Nat) × Int :=
  match p with
  | [] => ([], 2)
  | a :: r => if a = 136 then (if (fieldsOf r).all goodEl then (if endOf r = 0 then ((fieldsOf r).map (·.2), 0) else ([], endOf r)) else ([], 4)) else ([], 4)
/-- the first of a code -/
def findOf (p : List Nat) (c : Nat) : Option (List Nat) := (repliesOf p).1.find? fun d => d.head? == some c
def numOf (p : List Nat) (c i n : Nat) : Option Nat := match findOf p c with
  | some d => if d.length < n then none else some (256 * d.getD i 0 + d.getD (i + 1) 0)
  | none => none
def parseOf (p : List Nat) : List Nat × Int := ((repliesOf p).1.map fun d => d.headD 0, (repliesOf p).2)
end Go.Proofs.Ytcibhchbgendaab.Qy
