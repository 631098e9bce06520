/- What the listed variable write.names gives a walk; the door's own heap meets the condition. -/
import Derived.Test.YtcibhchbgendaaaDoorRows
import Derived.Test.YtcibhchbgendaaaDoorSfCmd
import Derived.ProofKit
import Derived.LaidMore
import Derived.OpenShut
import Derived.Stop.Joined
namespace Go.Proofs.YtcibhchbgendaaaDoor.LaidCmd
open Go Go.ChangeShapes Go.WideShapes Go.ChangeAt Go.RowKit Go.Proofs.YtcibhchbgendaaaDoor.Sf

def laid : List (String × DataW Unit) := [("vitrine/write.names", Rows.laid_vitrine_write_names)]
theorem gN : Tryd.prog.globalNamed "vitrine/write.names" = some 2 := by kernel_rfl
theorem tN : (Tryd.prog.globals[2]?).map (·.type) = some 132 := by kernel_rfl
theorem door_met (os : Os) (args : Array Value) : laidMetH Tryd.prog laid ((World.doorLaid Tryd.prog 400 os).forCall (fun _ _ => 0) ⟨#[], args, []⟩).memory :=
  laidMetH_of_parts3 (fuel := 8) (laidMet_of_run' 8 (by kernel_rfl) (by kernel_rfl)) (by kernel_rfl) (by kernel_rfl)
theorem cmds_of {W : World} (h : laidMetH Tryd.prog laid W) : Cmds W := by
  rw [MakeChecks.laidMetH_plain _ _ _ (by kernel_rfl)] at h
  obtain ⟨ps, ⟨g0, t0, cs0, f0, p0, q0, hg0, ht0, hv0, hd0, _, _⟩, _, _⟩ := h
  obtain rfl := Option.some.inj (gN.symm.trans hg0)
  obtain rfl := Option.some.inj (tN.symm.trans ht0)
  obtain ⟨xs, m1, rfl, hx1, hlen, hn3, hel⟩ := DataW.trod_array Tryd.underlying132 hd0
  have c3 : Tryd.prog.cellsOf 131 = 3 := by kernel_rfl
  have cs1 : Tryd.prog.cellsOf 9 = 1 := by kernel_rfl
  have cu1 : Tryd.prog.cellsOf 5 = 1 := by kernel_rfl
  simp only [Prod.mk.injEq, DataW.agg.injEq, Rows.laid_vitrine_write_names] at hx1
  have key : ∀ k, k < 9 → ∃ s : ByteArray, W.cell? ⟨2, 3 * k, none⟩ = some (.string s) ∧ W.cell? ⟨2, 3 * k + 1, none⟩ = some (.int .u8 (cOne k)) ∧ W.cell? ⟨2, 3 * k + 2, none⟩ = some (.int .u8 (cTwo k)) := by
    intro k hk
    obtain ⟨x, hxk⟩ : ∃ x, xs[k]? = some x := ⟨xs[k], List.getElem?_eq_getElem (by omega)⟩
    have hel' := hel k hk
    rw [hxk] at hel'
    obtain ⟨ys, n, _, hx2, hl, hlen2, hf⟩ := DataW.trod_struct Tryd.underlying131 hel'
    have pick : ∀ (off : Nat) (v : Value), off < 3 → ((((cs0.toList.drop (k * Tryd.prog.cellsOf 131)).take (Tryd.prog.cellsOf 131)).drop off).take 1) = [v] → W.cell? ⟨2, 3 * k + off, none⟩ = some v := fun off v ho h => by
      have h1 := congrArg (fun l : List Value => l[0]?) h
      rw [c3] at h1
      simp only [List.getElem?_take, List.getElem?_drop, List.getElem?_cons_zero] at h1
      rw [if_pos (by decide), if_pos (by omega)] at h1
      have hv := World.var?_cell hg0 hv0 (3 * k + off)
      rw [hv, ← Array.getElem?_toList, show 3 * k + off = k * 3 + (off + 0) by omega]
      exact h1
    match ys, hlen2 with
    | [y0, y1, y2], _ =>
      have f0 : DataW.trod (fun _ => ()) Tryd.prog W 0 (fun _ => true) false n 9 ((((cs0.toList.drop (k * Tryd.prog.cellsOf 131)).take (Tryd.prog.cellsOf 131)).drop 0).take (Tryd.prog.cellsOf 9)) = some y0 := hf 0 _ rfl
      have f1 : DataW.trod (fun _ => ()) Tryd.prog W 0 (fun _ => true) false n 5 ((((cs0.toList.drop (k * Tryd.prog.cellsOf 131)).take (Tryd.prog.cellsOf 131)).drop 1).take (Tryd.prog.cellsOf 5)) = some y1 := hf 1 _ rfl
      have f2 : DataW.trod (fun _ => ()) Tryd.prog W 0 (fun _ => true) false n 5 ((((cs0.toList.drop (k * Tryd.prog.cellsOf 131)).take (Tryd.prog.cellsOf 131)).drop 2).take (Tryd.prog.cellsOf 5)) = some y2 := hf 2 _ rfl
      rw [cs1] at f0
      rw [cu1] at f1 f2
      obtain ⟨s, e0, x0, _⟩ := DataW.trod_string Tryd.underlying9 f0
      obtain ⟨n1, e1, x1, _⟩ := DataW.trod_int Tryd.underlying5 f1
      obtain ⟨n2, e2, x2, _⟩ := DataW.trod_int Tryd.underlying5 f2
      have g0 := pick 0 _ (by decide) e0
      have g1 := pick 1 _ (by decide) e1
      have g2 := pick 2 _ (by decide) e2
      have hs : n1 = cOne k ∧ n2 = cTwo k := by
        have h := congrArg (fun l : List (DataW Unit) => l[k]?) hx1.1
        simp only [List.getElem?_map, hxk, Option.map_some, hx2] at h
        simp only [List.map_cons, List.map_nil, x0, x1, x2] at h
        have hk' : k = 0 ∨ k = 1 ∨ k = 2 ∨ k = 3 ∨ k = 4 ∨ k = 5 ∨ k = 6 ∨ k = 7 ∨ k = 8 := by omega
        rcases hk' with rfl | rfl | rfl | rfl | rfl | rfl | rfl | rfl | rfl <;>
          (simp at h; obtain ⟨_, h1, h2⟩ := h; rw [← h1, ← h2]; exact ⟨rfl, rfl⟩)
      rw [hs.1] at g1
      rw [hs.2] at g2
      exact ⟨s, g0, g1, g2⟩
  obtain ⟨ws, hws⟩ := Classical.axiomOfChoice (r := fun (k : Nat) (s : ByteArray) => k < 9 → W.cell? ⟨2, 3 * k, none⟩ = some (.string s) ∧ W.cell? ⟨2, 3 * k + 1, none⟩ = some (.int .u8 (cOne k)) ∧ W.cell? ⟨2, 3 * k + 2, none⟩ = some (.int .u8 (cTwo k))) (fun k => by
    by_cases hk : k < 9
    · obtain ⟨s, h⟩ := key k hk
      exact ⟨s, fun _ => h⟩
    · exact ⟨ByteArray.empty, fun h => absurd h hk⟩)
  exact ⟨ws, hws⟩
end Go.Proofs.YtcibhchbgendaaaDoor.LaidCmd
