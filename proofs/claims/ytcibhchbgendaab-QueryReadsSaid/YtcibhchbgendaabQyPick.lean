/- The walk of vitrinelaw22.pick. -/
import Derived.Test.YtcibhchbgendaabQyAwake
import Derived.RegionTactic
import Derived.BigRegion
import Derived.Deep.DrawnRows
import Derived.Deep.RegionHeld3
namespace Go.Proofs.Ytcibhchbgendaab.Qy
open Go Go.RowKit Go.Proofs.Ytcibhchbgendaab.By Go.Proofs.Ytcibhchbgendaab.Sf Go.Proofs.Ytcibhchbgendaab.Pg
attribute [local go_sem ↓] Go.wp_at_zero Go.wp_at_succ

def KK (k : Nat) : Prop := k = 37 ∨ k = 273 ∨ k = 297 ∨ k = 500 ∨ k = 1047 ∨ k = 1140
theorem KK.num {k : Nat} (h : KK k) : IsNum (k : Int) := by
  rcases h with rfl | rfl | rfl | rfl | rfl | rfl <;> decide
set_option maxHeartbeats 4000000 in
set_option maxRecDepth 100000 in
theorem qpick_any (n : Nat) (hn : n < 256) (w : World) : Calls Try.prog 30 #[.int .u8 n] w fun e w' =>
    ∃ (p : Value) (k : Nat), e = .returned (.tuple #[p, .int .i64 (k : Int)]) ∧ KK k ∧ PgP w' p k ∧ Below w.heap.size w w' := by
  have HB0 := Lib.hid ((Below.refl w.heap.size w).alloc (Nat.le_refl _) (.cells #[.int .i64 37, .int .i64 273, .int .i64 297, .int .i64 500, .int .i64 1047, .int .i64 1140] 3))
  have key : ∀ (r : Nat) (k : Nat), KK k → ([37, 273, 297, 500, 1047, 1140] : List Nat)[r]? = some k → (n : Int) % 7 = r → r < 6 → Calls Try.prog 30 #[.int .u8 n] w fun e w' =>
      ∃ (p : Value) (k : Nat), e = .returned (.tuple #[p, .int .i64 (k : Int)]) ∧ KK k ∧ PgP w' p k ∧ Below w.heap.size w w' := by
    intro r k hk hl hr hr6
    have hbk : Bk (w.alloc (.cells #[.int .i64 37, .int .i64 273, .int .i64 297, .int .i64 500, .int .i64 1047, .int .i64 1140] 3)) w.heap.size 3 #[.int .i64 37, .int .i64 273, .int .i64 297, .int .i64 500, .int .i64 1047, .int .i64 1140] := Bk.new _ _ _
    have hget : (#[.int .i64 37, .int .i64 273, .int .i64 297, .int .i64 500, .int .i64 1047, .int .i64 1140] : Array Value)[r]? = some (.int .i64 (k : Int)) := by
      have h : r = 0 ∨ r = 1 ∨ r = 2 ∨ r = 3 ∨ r = 4 ∨ r = 5 := by omega
      rcases h with rfl | rfl | rfl | rfl | rfl | rfl <;> (simp at hl; subst hl; rfl)
    have hc := hbk.cellv hget
    have HBK := Lib.hid hbk
    have HGET := Lib.hid hget
    have HK := Lib.hid hk
    have hr7 : ((r : Int) == 6) = false := beq_eq_false_iff_ne.2 (by omega)
    have HNUM := Lib.hid hk.num
    clear hl hbk hget hk
    go_enter Try.func30, Try.ntmps30
    go_wp2_with fail
    refine (new_any (k : Int) HNUM.out _).mono ?_
    rintro e w1 ⟨b, rfl, hb, hp, h1⟩
    have HP := Lib.hid hp
    have HB1 := Lib.hid (HB0.out.trans (h1.mono (by simp)))
    have HBK1 := Lib.hid (HBK.out.below h1 (by simp))
    have hc1 : w1.cell? ⟨w.heap.size, r, none⟩ = some (.int .i64 (k : Int)) := HBK1.out.cellv HGET.out
    have hc2 : w1.drew.cell? ⟨w.heap.size, r, none⟩ = some (.int .i64 (k : Int)) := hc1
    clear hc hb hp h1
    have ht : (n : Int).tmod 7 = r := by rw [Int.tmod_eq_emod_of_nonneg (by omega)]; exact hr
    have hr0 : (0 : Int) ≤ (r : Int) := by omega
    have hr66 : (r : Int) < 6 := by omega
    go_wp2_with fail
    go_region_held3 (fun W' => W'.cell? ⟨w.heap.size, r, none⟩ = some (.int .i64 (k : Int))) (first | assumption | fail) (fail)
    go_wp2_with fail
    go_ret2
    exact ⟨_, k, rfl, HK.out, .inr ⟨b, rfl, HP.out⟩, HB1.out.drew⟩
  have h : n % 7 = 6 ∨ n % 7 = 0 ∨ n % 7 = 1 ∨ n % 7 = 2 ∨ n % 7 = 3 ∨ n % 7 = 4 ∨ n % 7 = 5 := by omega
  rcases h with h | h | h | h | h | h | h
  · have hr : (n : Int) % 7 = 6 := by omega
    clear h
    go_enter Try.func30, Try.ntmps30
    go_wp2_with fail
    go_ret2
    exact ⟨.pointer none, 37, rfl, .inl rfl, .inl ⟨rfl, rfl⟩, HB0.out⟩
  · exact key 0 37 (.inl rfl) rfl (by omega) (by omega)
  · exact key 1 273 (by unfold KK; omega) rfl (by omega) (by omega)
  · exact key 2 297 (by unfold KK; omega) rfl (by omega) (by omega)
  · exact key 3 500 (by unfold KK; omega) rfl (by omega) (by omega)
  · exact key 4 1047 (by unfold KK; omega) rfl (by omega) (by omega)
  · exact key 5 1140 (by unfold KK; omega) rfl (by omega) (by omega)
end Go.Proofs.Ytcibhchbgendaab.Qy
