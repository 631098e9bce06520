/- What the listed variable class.names gives a walk; the door's own heap meets the condition. -/
import Derived.Test.YtcibhchbgendaaaDoorRows
import Derived.Test.YtcibhchbgendaaaDoorClName
import Derived.ProofKit
import Derived.LaidMore
import Derived.OpenShut
import Derived.Stop.Joined
namespace Go.Proofs.YtcibhchbgendaaaDoor.LaidClass
open Go Go.ChangeShapes Go.WideShapes Go.ChangeAt Go.RowKit Go.Proofs.YtcibhchbgendaaaDoor.Cl

def laid : List (String × DataW Unit) := [("vitrine/class.names", Rows.laid_vitrine_class_names)]
theorem gN : Tryd.prog.globalNamed "vitrine/class.names" = some 1 := by kernel_rfl
theorem tN : (Tryd.prog.globals[1]?).map (·.type) = some 99 := by kernel_rfl
theorem door_met (os : Os) (args : Array Value) : laidMetH Tryd.prog laid ((World.doorLaid Tryd.prog 400 os).forCall (fun _ _ => 0) ⟨#[], args, []⟩).memory :=
  laidMetH_of_parts3 (fuel := 8) (laidMet_of_run' 8 (by kernel_rfl) (by kernel_rfl)) (by kernel_rfl) (by kernel_rfl)
theorem names_of {W : World} (h : laidMetH Tryd.prog laid W) : Names W := by
  rw [MakeChecks.laidMetH_plain _ _ _ (by kernel_rfl)] at h
  obtain ⟨ps, ⟨g0, t0, cs0, f0, p0, q0, hg0, ht0, hv0, hd0, _, _⟩, _, _⟩ := h
  obtain rfl := Option.some.inj (gN.symm.trans hg0)
  obtain rfl := Option.some.inj (tN.symm.trans ht0)
  obtain ⟨xs, m1, rfl, hx1, hlen, hn3, hel⟩ := DataW.trod_array Tryd.underlying99 hd0
  have c1 : Tryd.prog.cellsOf 9 = 1 := by kernel_rfl
  simp only [Prod.mk.injEq, DataW.agg.injEq, Rows.laid_vitrine_class_names] at hx1
  intro i s hi
  have hi8 : i < 8 := (List.getElem?_eq_some_iff.1 hi).1
  obtain ⟨x, hxi⟩ : ∃ x, xs[i]? = some x := ⟨xs[i], List.getElem?_eq_getElem (by omega)⟩
  have hel' := hel i hi8
  rw [hxi] at hel'
  obtain ⟨s', e1, e2, _⟩ := DataW.trod_string Tryd.underlying9 hel'
  have hs : s' = s := by
    have h := congrArg (·[i]?) hx1.1
    simp only [List.getElem?_map, hxi, e2, Option.map_some] at h
    have hi' : i = 0 ∨ i = 1 ∨ i = 2 ∨ i = 3 ∨ i = 4 ∨ i = 5 ∨ i = 6 ∨ i = 7 := by omega
    obtain ⟨⟨l⟩⟩ := s'
    rcases hi' with rfl | rfl | rfl | rfl | rfl | rfl | rfl | rfl <;>
      (simp [classNames] at hi; subst hi; simp at h; subst h; rfl)
  subst hs
  have hv := World.var?_cell hg0 hv0 i
  rw [c1] at e1
  have : cs0[i]? = some (.string s') := by
    obtain ⟨l0⟩ := cs0
    have h := congrArg (·[0]?) e1
    simpa using h
  rw [this] at hv
  exact hv
end Go.Proofs.YtcibhchbgendaaaDoor.LaidClass
