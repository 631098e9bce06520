/- The iterator of page.Numbers: its contract. The walk of vitrinelaw01.numbers. -/
import Derived.Test.YtcibhchbgendaabPgCore
import Derived.RangeFuncNested
import Derived.RangeFuncBound
import Derived.RangeFuncCalls
import Derived.RangeFuncLeaves
import Derived.RangeFuncFrom
import Derived.RangeFuncBox
import Derived.Shelf.Abstract
import Derived.Shelf.RegionOpen
import Derived.WalkKit
import Derived.OwnWalkIn
import Derived.TacticsInMore
import Derived.LoopNIn
import Derived.LoopIn
namespace Go.Proofs.Ytcibhchbgendaab.Cl
open Go Go.RowKit Go.Shelf Go.Proofs.Ytcibhchbgendaab.Pg
attribute [local go_sem] Oper.semAt_some

def six : List Int := [37, 273, 297, 500, 1047, 1140]
def sixV : Array Value := #[.int .i64 37, .int .i64 273, .int .i64 297, .int .i64 500, .int .i64 1047, .int .i64 1140]

theorem int_info : (Try.prog.info? 3).map (fun i => (i.zero, i.size, i.bytes)) = some (some (.int .i64 0), 1, 8) := by kernel_rfl
theorem six_index (j : Nat) (k : Int) (h : six[j]? = some k) (w : World) : (Instr.index 123 (.agg sixV) (.int .i64 (j : Int))).run Try.prog w = .ok (.int .i64 k) w := by
  have hj : j < 6 := (List.getElem?_eq_some_iff.1 h).1
  obtain ⟨i0, hi, hz0, hz1, hz2⟩ := info_parts int_info
  exact run_index_agg (xs := six.map (Value.int .i64)) Try.underlying123 hi hz1 (fun w => by rw [Try.isAgg3]) hj (by rw [List.getElem?_map, h]; rfl) .i64 w

set_option maxRecDepth 100000 in
set_option maxHeartbeats 2000000 in
theorem numbers_stops (F : Fence) (n : Nat) (hF : F.fn 68) (hro : F.round = none) (hn : 1 ≤ n) (w : World) :
    SeqStopsK F n Try.prog 68 #[] (fun x : Int => #[Value.int .i64 x]) KeepsWalks (fun ys => ys = six) (fun pre => pre <+: six) 6 w := fun l J Jx W _ _ _ hY h0 => by
  refine callsIn_of_wp Try.func68 rfl hF ?_ hro
  simp only [Try.ntmps68, List.size_toArray, List.length_cons, List.length_nil, Nat.reduceAdd, Nat.reduceSub, Array.replicate_succ, Array.replicate_zero, List.push_toArray, List.append_toArray, List.nil_append, List.cons_append]
  gi_wp2
  gi_loopw [5] (fun i wr => ∃ j : Nat, j ≤ 6 ∧ i = .int .i64 j ∧ J (six.take j) wr) (fun i _ => 6 - (intOf i).toNat)
  case atStart => exact ⟨0, by omega, rfl, h0⟩
  case round =>
    obtain ⟨j, hj, rfl, hJ⟩ := hrel
    by_cases hlt : j < 6
    · obtain ⟨x, hx⟩ : ∃ x, six[j]? = some x := ⟨six[j]'(by simpa [six] using hlt), List.getElem?_eq_getElem (by simpa [six] using hlt)⟩
      have hidx := six_index j x hx
      unfold sixV at hidx
      have htk : six.take (j + 1) = six.take j ++ [x] := by
        rw [List.take_add_one, hx]
        rfl
      obtain ⟨fn, tmps, assign, body, hy, hR⟩ := hY (six.take j) x wr hJ (by simp [six]; omega)
      gi_wp2
      refine hR.mono ?_
      rintro e W1 (⟨rfl, hJ1, _⟩ | ⟨rfl, hx1⟩)
      · gi_wp2
        go_roundw
        case rel => exact ⟨j + 1, by omega, by go_num, by rw [htk]; exact hJ1⟩
        case measure => simp [intOf]; omega
      · gi_wp2
        refine bodyPost_ret (results_none rfl _ _ _) rfl ?_
        exact ⟨⟨_, rfl⟩, .inr ⟨six.take j ++ [x], by rw [← htk]; exact List.take_prefix _ _, hx1⟩⟩
    · have hj6 : j = 6 := by omega
      subst hj6
      gi_wp2
      go_end0
      exact ⟨⟨_, rfl⟩, .inl ⟨six.take 6, rfl, hJ⟩⟩
end Go.Proofs.Ytcibhchbgendaab.Cl
