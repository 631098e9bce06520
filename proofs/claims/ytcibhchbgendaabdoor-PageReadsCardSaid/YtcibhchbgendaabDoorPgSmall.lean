/- The walk of page.small; what a great letter comes to. -/
import Derived.Test.YtcibhchbgendaabDoorPgPure2
import Derived.Test.YtcibhchbgendaabDoorPgCore
import Derived.Deep.QuietTactic
import Derived.BigQuiet
namespace Go.Proofs.YtcibhchbgendaabDoor.Rf
open Go Go.RowKit Go.Proofs.YtcibhchbgendaabDoor.Pg


theorem upper_not {k s : Int} {c : Nat} (hs : s = signOf k c) (h : smallB s = false) : upperOf k c = c := by
  unfold upperOf
  rw [← hs, h]
  rfl
theorem upper_none {k s : Int} {c : Nat} (hs : s = signOf k c) (h : smallB s = true) (hd : codeOf k (s - 32) = none) : upperOf k c = c := by
  unfold upperOf
  rw [← hs, h, hd]
  rfl
theorem upper_some {k s : Int} {c d : Nat} (hs : s = signOf k c) (h : smallB s = true) (hd : codeOf k (s - 32) = some d) : upperOf k c = d := by
  unfold upperOf
  rw [← hs, h, hd]
  rfl

end Go.Proofs.YtcibhchbgendaabDoor.Rf
