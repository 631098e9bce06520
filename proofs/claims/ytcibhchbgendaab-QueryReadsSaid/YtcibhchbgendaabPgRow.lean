/- The walk of page.row. -/
import Derived.Test.YtcibhchbgendaabVw
import Derived.Test.YtcibhchbgendaabPgPure
import Derived.Test.YtcibhchbgendaabProg
import Derived.KernelRfl
import Derived.Outline
namespace Go.Proofs.Ytcibhchbgendaab.Pg
open Go Go.RowKit

set_option maxHeartbeats 1600000 in
set_option maxRecDepth 100000 in
theorem row0 (w : World) : Calls Try.prog 91 #[.int .i64 0] w fun e w' => e = .returned (.agg ((rowL 0).map (Value.int .u16)).toArray) ∧ Below w.heap.size w w' := by
  go_enter Try.func91, Try.ntmps91
  go_wp2
  refine bodyPost_ret (results_cell_row (ty := 154) (d := .array 16 141) rfl _ _ _ _ _ _ rfl (heap_alloc_new w _) Try.underlying154 rfl (by kernel_rfl)) rfl ?_
  exact ⟨rfl, (Below.refl _ _).alloc (Nat.le_refl _) _⟩

set_option maxHeartbeats 1600000 in
set_option maxRecDepth 100000 in
theorem row1 (w : World) : Calls Try.prog 91 #[.int .i64 1] w fun e w' => e = .returned (.agg ((rowL 1).map (Value.int .u16)).toArray) ∧ Below w.heap.size w w' := by
  go_enter Try.func91, Try.ntmps91
  go_wp2
  refine bodyPost_ret (results_cell_row (ty := 154) (d := .array 16 141) rfl _ _ _ _ _ _ rfl (heap_alloc_new w _) Try.underlying154 rfl (by kernel_rfl)) rfl ?_
  exact ⟨rfl, (Below.refl _ _).alloc (Nat.le_refl _) _⟩

set_option maxHeartbeats 1600000 in
set_option maxRecDepth 100000 in
theorem row2 (w : World) : Calls Try.prog 91 #[.int .i64 2] w fun e w' => e = .returned (.agg ((rowL 2).map (Value.int .u16)).toArray) ∧ Below w.heap.size w w' := by
  go_enter Try.func91, Try.ntmps91
  go_wp2
  refine bodyPost_ret (results_cell_row (ty := 154) (d := .array 16 141) rfl _ _ _ _ _ _ rfl (heap_alloc_new w _) Try.underlying154 rfl (by kernel_rfl)) rfl ?_
  exact ⟨rfl, (Below.refl _ _).alloc (Nat.le_refl _) _⟩

set_option maxHeartbeats 1600000 in
set_option maxRecDepth 100000 in
theorem row3 (w : World) : Calls Try.prog 91 #[.int .i64 3] w fun e w' => e = .returned (.agg ((rowL 3).map (Value.int .u16)).toArray) ∧ Below w.heap.size w w' := by
  go_enter Try.func91, Try.ntmps91
  go_wp2
  refine bodyPost_ret (results_cell_row (ty := 154) (d := .array 16 141) rfl _ _ _ _ _ _ rfl (heap_alloc_new w _) Try.underlying154 rfl (by kernel_rfl)) rfl ?_
  exact ⟨rfl, (Below.refl _ _).alloc (Nat.le_refl _) _⟩

set_option maxHeartbeats 1600000 in
set_option maxRecDepth 100000 in
theorem row4 (w : World) : Calls Try.prog 91 #[.int .i64 4] w fun e w' => e = .returned (.agg ((rowL 4).map (Value.int .u16)).toArray) ∧ Below w.heap.size w w' := by
  go_enter Try.func91, Try.ntmps91
  go_wp2
  refine bodyPost_ret (results_cell_row (ty := 154) (d := .array 16 141) rfl _ _ _ _ _ _ rfl (heap_alloc_new w _) Try.underlying154 rfl (by kernel_rfl)) rfl ?_
  exact ⟨rfl, (Below.refl _ _).alloc (Nat.le_refl _) _⟩

set_option maxHeartbeats 1600000 in
set_option maxRecDepth 100000 in
theorem row5 (w : World) : Calls Try.prog 91 #[.int .i64 5] w fun e w' => e = .returned (.agg ((rowL 5).map (Value.int .u16)).toArray) ∧ Below w.heap.size w w' := by
  go_enter Try.func91, Try.ntmps91
  go_wp2
  refine bodyPost_ret (results_cell_row (ty := 154) (d := .array 16 141) rfl _ _ _ _ _ _ rfl (heap_alloc_new w _) Try.underlying154 rfl (by kernel_rfl)) rfl ?_
  exact ⟨rfl, (Below.refl _ _).alloc (Nat.le_refl _) _⟩

set_option maxHeartbeats 1600000 in
set_option maxRecDepth 100000 in
theorem row6 (w : World) : Calls Try.prog 91 #[.int .i64 6] w fun e w' => e = .returned (.agg ((rowL 6).map (Value.int .u16)).toArray) ∧ Below w.heap.size w w' := by
  go_enter Try.func91, Try.ntmps91
  go_wp2
  refine bodyPost_ret (results_cell_row (ty := 154) (d := .array 16 141) rfl _ _ _ _ _ _ rfl (heap_alloc_new w _) Try.underlying154 rfl (by kernel_rfl)) rfl ?_
  exact ⟨rfl, (Below.refl _ _).alloc (Nat.le_refl _) _⟩

set_option maxHeartbeats 1600000 in
set_option maxRecDepth 100000 in
theorem row7 (w : World) : Calls Try.prog 91 #[.int .i64 7] w fun e w' => e = .returned (.agg ((rowL 7).map (Value.int .u16)).toArray) ∧ Below w.heap.size w w' := by
  go_enter Try.func91, Try.ntmps91
  go_wp2
  refine bodyPost_ret (results_cell_row (ty := 154) (d := .array 16 141) rfl _ _ _ _ _ _ rfl (heap_alloc_new w _) Try.underlying154 rfl (by kernel_rfl)) rfl ?_
  exact ⟨rfl, (Below.refl _ _).alloc (Nat.le_refl _) _⟩

set_option maxHeartbeats 1600000 in
set_option maxRecDepth 100000 in
theorem row8 (w : World) : Calls Try.prog 91 #[.int .i64 8] w fun e w' => e = .returned (.agg ((rowL 8).map (Value.int .u16)).toArray) ∧ Below w.heap.size w w' := by
  go_enter Try.func91, Try.ntmps91
  go_wp2
  refine bodyPost_ret (results_cell_row (ty := 154) (d := .array 16 141) rfl _ _ _ _ _ _ rfl (heap_alloc_new w _) Try.underlying154 rfl (by kernel_rfl)) rfl ?_
  exact ⟨rfl, (Below.refl _ _).alloc (Nat.le_refl _) _⟩

set_option maxHeartbeats 1600000 in
set_option maxRecDepth 100000 in
theorem row9 (w : World) : Calls Try.prog 91 #[.int .i64 9] w fun e w' => e = .returned (.agg ((rowL 9).map (Value.int .u16)).toArray) ∧ Below w.heap.size w w' := by
  go_enter Try.func91, Try.ntmps91
  go_wp2
  refine bodyPost_ret (results_cell_row (ty := 154) (d := .array 16 141) rfl _ _ _ _ _ _ rfl (heap_alloc_new w _) Try.underlying154 rfl (by kernel_rfl)) rfl ?_
  exact ⟨rfl, (Below.refl _ _).alloc (Nat.le_refl _) _⟩

set_option maxHeartbeats 1600000 in
set_option maxRecDepth 100000 in
theorem row10 (w : World) : Calls Try.prog 91 #[.int .i64 10] w fun e w' => e = .returned (.agg ((rowL 10).map (Value.int .u16)).toArray) ∧ Below w.heap.size w w' := by
  go_enter Try.func91, Try.ntmps91
  go_wp2
  refine bodyPost_ret (results_cell_row (ty := 154) (d := .array 16 141) rfl _ _ _ _ _ _ rfl (heap_alloc_new w _) Try.underlying154 rfl (by kernel_rfl)) rfl ?_
  exact ⟨rfl, (Below.refl _ _).alloc (Nat.le_refl _) _⟩

set_option maxHeartbeats 1600000 in
set_option maxRecDepth 100000 in
theorem row11 (w : World) : Calls Try.prog 91 #[.int .i64 11] w fun e w' => e = .returned (.agg ((rowL 11).map (Value.int .u16)).toArray) ∧ Below w.heap.size w w' := by
  go_enter Try.func91, Try.ntmps91
  go_wp2
  refine bodyPost_ret (results_cell_row (ty := 154) (d := .array 16 141) rfl _ _ _ _ _ _ rfl (heap_alloc_new w _) Try.underlying154 rfl (by kernel_rfl)) rfl ?_
  exact ⟨rfl, (Below.refl _ _).alloc (Nat.le_refl _) _⟩

set_option maxHeartbeats 1600000 in
set_option maxRecDepth 100000 in
theorem row12 (w : World) : Calls Try.prog 91 #[.int .i64 12] w fun e w' => e = .returned (.agg ((rowL 12).map (Value.int .u16)).toArray) ∧ Below w.heap.size w w' := by
  go_enter Try.func91, Try.ntmps91
  go_wp2
  refine bodyPost_ret (results_cell_row (ty := 154) (d := .array 16 141) rfl _ _ _ _ _ _ rfl (heap_alloc_new w _) Try.underlying154 rfl (by kernel_rfl)) rfl ?_
  exact ⟨rfl, (Below.refl _ _).alloc (Nat.le_refl _) _⟩

set_option maxHeartbeats 1600000 in
set_option maxRecDepth 100000 in
theorem row13 (w : World) : Calls Try.prog 91 #[.int .i64 13] w fun e w' => e = .returned (.agg ((rowL 13).map (Value.int .u16)).toArray) ∧ Below w.heap.size w w' := by
  go_enter Try.func91, Try.ntmps91
  go_wp2
  refine bodyPost_ret (results_cell_row (ty := 154) (d := .array 16 141) rfl _ _ _ _ _ _ rfl (heap_alloc_new w _) Try.underlying154 rfl (by kernel_rfl)) rfl ?_
  exact ⟨rfl, (Below.refl _ _).alloc (Nat.le_refl _) _⟩

set_option maxHeartbeats 1600000 in
set_option maxRecDepth 100000 in
theorem row14 (w : World) : Calls Try.prog 91 #[.int .i64 14] w fun e w' => e = .returned (.agg ((rowL 14).map (Value.int .u16)).toArray) ∧ Below w.heap.size w w' := by
  go_enter Try.func91, Try.ntmps91
  go_wp2
  refine bodyPost_ret (results_cell_row (ty := 154) (d := .array 16 141) rfl _ _ _ _ _ _ rfl (heap_alloc_new w _) Try.underlying154 rfl (by kernel_rfl)) rfl ?_
  exact ⟨rfl, (Below.refl _ _).alloc (Nat.le_refl _) _⟩

set_option maxHeartbeats 1600000 in
set_option maxRecDepth 100000 in
theorem row15 (w : World) : Calls Try.prog 91 #[.int .i64 15] w fun e w' => e = .returned (.agg ((rowL 15).map (Value.int .u16)).toArray) ∧ Below w.heap.size w w' := by
  go_enter Try.func91, Try.ntmps91
  go_wp2
  refine bodyPost_ret (results_cell_row (ty := 154) (d := .array 16 141) rfl _ _ _ _ _ _ rfl (heap_alloc_new w _) Try.underlying154 rfl (by kernel_rfl)) rfl ?_
  exact ⟨rfl, (Below.refl _ _).alloc (Nat.le_refl _) _⟩

theorem row_any (d : Nat) (hd : d < 16) (w : World) : Calls Try.prog 91 #[.int .i64 d] w fun e w' => e = .returned (.agg ((rowL d).map (Value.int .u16)).toArray) ∧ Below w.heap.size w w' := by
  have h : d = 0 ∨ d = 1 ∨ d = 2 ∨ d = 3 ∨ d = 4 ∨ d = 5 ∨ d = 6 ∨ d = 7 ∨ d = 8 ∨ d = 9 ∨ d = 10 ∨ d = 11 ∨ d = 12 ∨ d = 13 ∨ d = 14 ∨ d = 15 := by omega
  rcases h with rfl | rfl | rfl | rfl | rfl | rfl | rfl | rfl | rfl | rfl | rfl | rfl | rfl | rfl | rfl | rfl
  · exact row0 w
  · exact row1 w
  · exact row2 w
  · exact row3 w
  · exact row4 w
  · exact row5 w
  · exact row6 w
  · exact row7 w
  · exact row8 w
  · exact row9 w
  · exact row10 w
  · exact row11 w
  · exact row12 w
  · exact row13 w
  · exact row14 w
  · exact row15 w
end Go.Proofs.Ytcibhchbgendaab.Pg
