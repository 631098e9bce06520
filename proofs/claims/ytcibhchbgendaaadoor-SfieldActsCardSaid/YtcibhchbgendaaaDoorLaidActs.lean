/- What the listed variables write.names and sfield.names give a walk; the door's own heap meets the condition. -/
import Derived.Test.YtcibhchbgendaaaDoorLaidCmd
import Derived.Test.YtcibhchbgendaaaDoorSfName
namespace Go.Proofs.YtcibhchbgendaaaDoor.LaidActs
open Go Go.ChangeShapes Go.WideShapes Go.ChangeAt Go.RowKit Go.Proofs.YtcibhchbgendaaaDoor.Sf

def laid : List (String × DataW Unit) := [("vitrine/write.names", Rows.laid_vitrine_write_names), ("vitrine/sfield.names", Rows.laid_vitrine_sfield_names)]
theorem gK : Tryd.prog.globalNamed "vitrine/sfield.names" = some 0 := by kernel_rfl
theorem tK : (Tryd.prog.globals[0]?).map (·.type) = some 90 := by kernel_rfl
theorem door_met (os : Os) (args : Array Value) : laidMetH Tryd.prog laid ((World.doorLaid Tryd.prog 400 os).forCall (fun _ _ => 0) ⟨#[], args, []⟩).memory :=
  laidMetH_of_parts3 (fuel := 8) (laidMet_of_run' 8 (by kernel_rfl) (by kernel_rfl)) (by kernel_rfl) (by kernel_rfl)
theorem met_head {P : Program} {x : String × DataW Unit} {r : List (String × DataW Unit)} {w : World} (h : laidMet P (x :: r) w) : laidMet P [x] w := by
  obtain ⟨ps, ⟨g, t, cs, f, p, q, h1, h2, h3, h4, h5, rfl⟩, hn, hc⟩ := h
  refine ⟨_, ⟨g, t, cs, f, p, [], h1, h2, h3, h4, rfl, rfl⟩, ?_, fun b off hm => hc b off ?_⟩
  · rw [List.append_nil]
    exact (List.nodup_append.1 hn).1
  · rw [List.append_nil] at hm
    exact List.mem_append_left _ hm
theorem met_tail {P : Program} {x : String × DataW Unit} {r : List (String × DataW Unit)} {w : World} (h : laidMet P (x :: r) w) : laidMet P r w := by
  obtain ⟨ps, ⟨g, t, cs, f, p, q, h1, h2, h3, h4, h5, rfl⟩, hn, hc⟩ := h
  exact ⟨q, h5, (List.nodup_append.1 hn).2.1, fun b off hm => hc b off (List.mem_append_right _ hm)⟩
theorem cmds_of {W : World} (h : laidMetH Tryd.prog laid W) : Cmds W := by
  rw [MakeChecks.laidMetH_plain _ _ _ (by kernel_rfl)] at h
  refine LaidCmd.cmds_of ?_
  rw [MakeChecks.laidMetH_plain _ _ _ (by kernel_rfl)]
  exact met_head h
theorem kinds_of {W : World} (h : laidMetH Tryd.prog laid W) : Kinds W := by
  rw [MakeChecks.laidMetH_plain _ _ _ (by kernel_rfl)] at h
  obtain ⟨ps, ⟨g0, t0, cs0, f0, p0, q0, hg0, ht0, hv0, hd0, _, _⟩, _, _⟩ := met_tail h
  obtain rfl := Option.some.inj (gK.symm.trans hg0)
  obtain rfl := Option.some.inj (tK.symm.trans ht0)
  obtain ⟨xs, m1, rfl, hx1, hlen, hn3, hel⟩ := DataW.trod_array Tryd.underlying90 hd0
  have c1 : Tryd.prog.cellsOf 9 = 1 := by kernel_rfl
  simp only [Prod.mk.injEq, DataW.agg.injEq, Rows.laid_vitrine_sfield_names] at hx1
  intro i s hi
  have hi8 : i < 10 := (List.getElem?_eq_some_iff.1 hi).1
  obtain ⟨x, hxi⟩ : ∃ x, xs[i]? = some x := ⟨xs[i], List.getElem?_eq_getElem (by omega)⟩
  have hel' := hel i hi8
  rw [hxi] at hel'
  obtain ⟨s', e1, e2, _⟩ := DataW.trod_string Tryd.underlying9 hel'
  have hs : s' = s := by
    have h := congrArg (·[i]?) hx1.1
    simp only [List.getElem?_map, hxi, e2, Option.map_some] at h
    have hi' : i = 0 ∨ i = 1 ∨ i = 2 ∨ i = 3 ∨ i = 4 ∨ i = 5 ∨ i = 6 ∨ i = 7 ∨ i = 8 ∨ i = 9 := by omega
    obtain ⟨⟨l⟩⟩ := s'
    rcases hi' with rfl | rfl | rfl | rfl | rfl | rfl | rfl | rfl | rfl | rfl <;>
      (simp [kindNames] at hi; subst hi; simp at h; subst h; rfl)
  subst hs
  have hv := World.var?_cell hg0 hv0 i
  rw [c1] at e1
  have : cs0[i]? = some (.string s') := by
    obtain ⟨l0⟩ := cs0
    have h := congrArg (·[0]?) e1
    simpa using h
  rw [this] at hv
  exact hv
theorem both_of {W : World} (h : laidMetH Tryd.prog laid W) : Cmds W ∧ Kinds W := ⟨cmds_of h, kinds_of h⟩
end Go.Proofs.YtcibhchbgendaaaDoor.LaidActs
