/- The walk of page.others: what it hands back for each number. -/
import Derived.Test.YtcibhchbgendaabProg
import Derived.WalkKit
import Derived.KernelRfl
import Derived.Outline
import Derived.Below
import Derived.Test.YtcibhchbgendaabVw
import Derived.Test.YtcibhchbgendaabPgPure
namespace Go.Proofs.Ytcibhchbgendaab.Pg
open Go Go.RowKit

/-- the cells of a list of others -/
def encO : List (Int × Int) → List Value
  | [] => []
  | (c, s) :: r => .int .u8 c :: .int .u16 s :: encO r

set_option maxHeartbeats 1600000 in
set_option maxRecDepth 100000 in
theorem others37 (w : World) : Calls Try.prog 67 #[.int .i64 37] w fun e w' =>
    e = .returned (.tuple #[.slice none 0 0, .bool true]) ∧ w' = w := by
  go_enter Try.func67, Try.ntmps67
  go_wp2
  go_ret2
  exact ⟨rfl, rfl⟩

set_option maxHeartbeats 1600000 in
set_option maxRecDepth 100000 in
theorem others1140 (w : World) : Calls Try.prog 67 #[.int .i64 1140] w fun e w' =>
    e = .returned (.tuple #[.slice (some ⟨w.heap.size, 0, none⟩) 1 1, .bool true]) ∧ w' = w.alloc (.cells (encO oth1140).toArray 143) := by
  go_enter Try.func67, Try.ntmps67
  go_wp2
  go_ret2
  exact ⟨rfl, rfl⟩

set_option maxHeartbeats 1600000 in
set_option maxRecDepth 100000 in
theorem others273 (w : World) : Calls Try.prog 67 #[.int .i64 273] w fun e w' =>
    e = .returned (.tuple #[.slice (some ⟨w.heap.size, 0, none⟩) 21 21, .bool true]) ∧ w' = w.alloc (.cells (encO oth273).toArray 143) := by
  go_enter Try.func67, Try.ntmps67
  go_wp2
  go_ret2
  exact ⟨rfl, rfl⟩

set_option maxHeartbeats 1600000 in
set_option maxRecDepth 100000 in
theorem others297 (w : World) : Calls Try.prog 67 #[.int .i64 297] w fun e w' =>
    e = .returned (.tuple #[.slice (some ⟨w.heap.size, 0, none⟩) 25 25, .bool true]) ∧ w' = w.alloc (.cells (encO oth297).toArray 143) := by
  go_enter Try.func67, Try.ntmps67
  go_wp2
  go_ret2
  exact ⟨rfl, rfl⟩

set_option maxHeartbeats 1600000 in
set_option maxRecDepth 100000 in
theorem others500 (w : World) : Calls Try.prog 67 #[.int .i64 500] w fun e w' =>
    e = .returned (.tuple #[.slice (some ⟨w.heap.size, 0, none⟩) 7 7, .bool true]) ∧ w' = w.alloc (.cells (encO oth500).toArray 143) := by
  go_enter Try.func67, Try.ntmps67
  go_wp2
  go_ret2
  exact ⟨rfl, rfl⟩

set_option maxHeartbeats 1600000 in
set_option maxRecDepth 100000 in
theorem others1047 (w : World) : Calls Try.prog 67 #[.int .i64 1047] w fun e w' =>
    e = .returned (.tuple #[.slice (some ⟨w.heap.size, 0, none⟩) 6 6, .bool true]) ∧ w' = w.alloc (.cells (encO oth1047).toArray 143) := by
  go_enter Try.func67, Try.ntmps67
  go_wp2
  go_ret2
  exact ⟨rfl, rfl⟩

set_option maxHeartbeats 1600000 in
set_option maxRecDepth 100000 in
theorem others_none (n : Int) (h1 : (n == 37) = false) (h2 : (n == 273) = false) (h3 : (n == 297) = false) (h4 : (n == 500) = false) (h5 : (n == 1047) = false) (h6 : (n == 1140) = false) (w : World) :
    Calls Try.prog 67 #[.int .i64 n] w fun e w' => e = .returned (.tuple #[.slice none 0 0, .bool false]) ∧ w' = w := by
  go_enter Try.func67, Try.ntmps67
  go_wp2
  go_ret2
  exact ⟨rfl, rfl⟩

/-- a slice of others: nil, or a block of its own -/
def OthAt (w : World) (A : Option Addr) (l : List (Int × Int)) : Prop :=
  (A = none ∧ l = []) ∨ ∃ g, A = some ⟨g, 0, none⟩ ∧ Bk w g 143 (encO l).toArray

theorem encO_at : ∀ (l : List (Int × Int)) (j : Nat) (c s : Int), l[j]? = some (c, s) → (encO l)[2 * j]? = some (.int .u8 c) ∧ (encO l)[2 * j + 1]? = some (.int .u16 s)
  | [], j, c, s, h => by simp at h
  | (c', s') :: r, 0, c, s, h => by simp at h; obtain ⟨rfl, rfl⟩ := h; exact ⟨rfl, rfl⟩
  | (c', s') :: r, j + 1, c, s, h => by
    have := encO_at r j c s (by simpa using h)
    have e : 2 * (j + 1) = 2 * j + 1 + 1 := by omega
    rw [e]
    exact this

/-- the element at a place of such a slice -/
theorem OthAt.elem {w : World} {A : Option Addr} {l : List (Int × Int)} (h : OthAt w A l) {j : Nat} (hj : j < l.length) :
    ∃ g c s, A = some ⟨g, 0, none⟩ ∧ l[j]? = some (c, s) ∧ w.cell? ⟨g, j * 2, none⟩ = some (.int .u8 c) ∧ w.cell? ⟨g, j * 2 + 1, none⟩ = some (.int .u16 s) := by
  rcases h with ⟨_, rfl⟩ | ⟨g, rfl, hb⟩
  · simp at hj
  · obtain ⟨c, s⟩ : Int × Int := l[j]
    have hl : l[j]? = some l[j] := List.getElem?_eq_getElem hj
    obtain ⟨e1, e2⟩ := encO_at l j l[j].1 l[j].2 hl
    rw [show 2 * j = j * 2 from by omega] at e1 e2
    exact ⟨g, l[j].1, l[j].2, rfl, hl, hb.cellv (by simpa using e1), hb.cellv (by simpa using e2)⟩

theorem OthAt.grown {w w' : World} {A : Option Addr} {l : List (Int × Int)} {b : Nat} {cs : Array Value} (h : OthAt w A l) (hg : w.grownBy w' (some b)) (hb : Bk w b 122 cs) : OthAt w' A l := by
  rcases h with h | ⟨g, rfl, h⟩
  · exact .inl h
  · refine .inr ⟨g, rfl, h.grown hg (fun e => ?_)⟩
    injection e with e
    subst e
    unfold Bk at h hb
    rw [h] at hb
    injection hb with hb
    injection hb with _ ht
    exact absurd ht (by decide)

theorem others_any (k : Int) (hk : IsNum k) (w : World) : Calls Try.prog 67 #[.int .i64 k] w fun e w' =>
    ∃ A n, e = .returned (.tuple #[.slice A n n, .bool true]) ∧ n = (othL k).length ∧ OthAt w' A (othL k) ∧ Below w.heap.size w w' := by
  rcases hk with rfl | rfl | rfl | rfl | rfl | rfl
  · exact (others37 w).mono fun e w' ⟨he, hw⟩ => ⟨_, _, he, rfl, .inl ⟨rfl, rfl⟩, by subst hw; exact Below.refl _ _⟩
  · exact (others273 w).mono fun e w' ⟨he, hw⟩ => ⟨_, _, he, rfl, .inr ⟨_, rfl, by subst hw; exact heap_alloc_new w _⟩, by subst hw; exact (Below.refl _ _).alloc (Nat.le_refl _) _⟩
  · exact (others297 w).mono fun e w' ⟨he, hw⟩ => ⟨_, _, he, rfl, .inr ⟨_, rfl, by subst hw; exact heap_alloc_new w _⟩, by subst hw; exact (Below.refl _ _).alloc (Nat.le_refl _) _⟩
  · exact (others500 w).mono fun e w' ⟨he, hw⟩ => ⟨_, _, he, rfl, .inr ⟨_, rfl, by subst hw; exact heap_alloc_new w _⟩, by subst hw; exact (Below.refl _ _).alloc (Nat.le_refl _) _⟩
  · exact (others1047 w).mono fun e w' ⟨he, hw⟩ => ⟨_, _, he, rfl, .inr ⟨_, rfl, by subst hw; exact heap_alloc_new w _⟩, by subst hw; exact (Below.refl _ _).alloc (Nat.le_refl _) _⟩
  · exact (others1140 w).mono fun e w' ⟨he, hw⟩ => ⟨_, _, he, rfl, .inr ⟨_, rfl, by subst hw; exact heap_alloc_new w _⟩, by subst hw; exact (Below.refl _ _).alloc (Nat.le_refl _) _⟩

theorem others_no (n : Int) (h : ¬ IsNum n) (w : World) :
    Calls Try.prog 67 #[.int .i64 n] w fun e w' => e = .returned (.tuple #[.slice none 0 0, .bool false]) ∧ w' = w := by
  unfold IsNum at h
  exact others_none n (beq_eq_false_iff_ne.2 (by omega)) (beq_eq_false_iff_ne.2 (by omega)) (beq_eq_false_iff_ne.2 (by omega)) (beq_eq_false_iff_ne.2 (by omega)) (beq_eq_false_iff_ne.2 (by omega)) (beq_eq_false_iff_ne.2 (by omega)) w
end Go.Proofs.Ytcibhchbgendaab.Pg
