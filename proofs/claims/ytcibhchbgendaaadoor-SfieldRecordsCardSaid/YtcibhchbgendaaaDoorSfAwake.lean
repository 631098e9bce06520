/- The walk of vitrinelaw21.awake. -/
import Derived.Test.YtcibhchbgendaaaDoorSfActs
import Derived.Test.YtcibhchbgendaaaDoorSfSame
import Derived.Test.YtcibhchbgendaaaDoorSfLaw
namespace Go.Proofs.YtcibhchbgendaaaDoor.Sf
open Go Go.RowKit Go.Proofs.YtcibhchbgendaaaDoor.By

theorem ARow_cell {t : TypeId} {B : Nat} {W : World} {g n cap : Nat} {xs : List AEl} (h : ARow t B W (.slice (some ⟨g, 0, none⟩) n cap) xs) {i j : Nat} {x : AEl} (hi : xs[i]? = some x) (hj : j < 7) : W.cell? ⟨g, i * 7 + j, none⟩ = x.cells[j]? := by
  have hlt := (List.getElem?_eq_some_iff.1 hi).1
  obtain ⟨hr, _⟩ := h
  have hn : n = xs.length := by
    obtain ⟨a, c, e⟩ := row_form hr
    injection e
  subst hn
  rw [hr.cellAt (i * 7 + j) (by omega)]
  exact flat_at AEl.cells 7 (fun _ => rfl) xs i j x hi hj
theorem Win_lit (w : World) (l : List Nat) (hl : l.length ≤ 1000) (hb : ∀ n ∈ l, n < 256) : Win (w.alloc (.cells (l.map bv).toArray 5)) w.heap.size 0 l.length l :=
  ⟨Nat.le_refl _, by unfold maxLen; omega, fun i n hi => by
    rw [Nat.zero_add, cell_of_row _ w.heap.size i (l.map bv).toArray _ (0, 0) (heap_alloc_new w _)]
    simp [hi], hb⟩

set_option maxHeartbeats 4000000 in
set_option maxRecDepth 100000 in
theorem awake_any (w : World) (hc : Cmds w) : Calls Tryd.prog 9 #[] w fun e w' => e = .returned (.bool true) ∧ Below w.heap.size w w' := by
  have HW := Lib.hid (Win_lit w [0, 5, 1, 255, 2, 0, 4, 3, 128] (by decide) (by decide))
  have HC := Lib.hid hc
  clear hc
  go_enter Tryd.func9, Tryd.ntmps9
  go_wp2_with fail
  refine (macts_any w.heap.size 0 9 [0, 5, 1, 255, 2, 0, 4, 3, 128] _ HW.out (by decide) (by simp) (HC.out.below ((Below.refl w.heap.size w).alloc (Nat.le_refl _) _) HC.out.lt)).mono ?_
  rintro e w1 ⟨⟨v, xs, rfl, hr, hx⟩, h1⟩
  rw [awake_fields] at hx ⊢
  have HB := Lib.hid (((Below.refl w.heap.size w).alloc (Nat.le_refl _) (.cells #[.int .u8 0, .int .u8 5, .int .u8 1, .int .u8 255, .int .u8 2, .int .u8 0, .int .u8 4, .int .u8 3, .int .u8 128] 5)).trans (h1.mono (by simp)))
  obtain ⟨x0, x1, rfl, e0, e1⟩ : ∃ x0 x1, xs = [x0, x1] ∧ x0.a = aQuery ∧ x1.a = aErase true := by
    match xs, hx with
    | [], h => simp at h
    | [_], h => simp at h
    | [x0, x1], h => simp at h; exact ⟨x0, x1, rfl, h.1, h.2⟩
    | _ :: _ :: _ :: _, h => simp at h
  obtain ⟨g, cap, rfl⟩ : ∃ g cap, v = .slice (some ⟨g, 0, none⟩) 2 cap := by
    rcases hr.1.2 with ⟨_, h⟩ | ⟨g, cap, cur, h, _⟩
    · simp at h
    · exact ⟨g, cap, h⟩
  have d0 : w1.cell? ⟨g, 0, none⟩ = some (.int .i64 1) := by
    have h := ARow_cell hr (i := 0) (j := 0) (x := x0) rfl (by decide)
    rw [AEl.cells, e0] at h
    exact h
  have d1 : w1.cell? ⟨g, 7, none⟩ = some (.int .i64 4) := by
    have h := ARow_cell hr (i := 1) (j := 0) (x := x1) rfl (by decide)
    rw [AEl.cells, e1] at h
    exact h
  have d2 : w1.cell? ⟨g, 10, none⟩ = some (.bool true) := by
    have h := ARow_cell hr (i := 1) (j := 3) (x := x1) rfl (by decide)
    rw [AEl.cells, e1] at h
    exact h
  clear hr hx h1 e0 e1
  go_wp2_with fail
  go_ret
  exact ⟨rfl, HB.out⟩
end Go.Proofs.YtcibhchbgendaaaDoor.Sf
