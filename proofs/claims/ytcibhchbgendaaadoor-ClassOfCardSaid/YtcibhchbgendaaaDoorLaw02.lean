/- The walks of vitrinelaw02's awake and pick. -/
import Derived.Test.YtcibhchbgendaaaDoorClUse
import Derived.RegionTactic
namespace Go.Proofs.YtcibhchbgendaaaDoor.L2
open Go Go.RowKit Go.Proofs.YtcibhchbgendaaaDoor.Pg Go.Proofs.YtcibhchbgendaaaDoor.Cl

theorem a1 : classOf 37 28 = 1 := by decide +kernel
theorem a2 : numericB 37 247 = true := by decide +kernel
theorem a3 : numericB 37 193 = false := by decide +kernel
theorem a4 : shownOf 37 28 = 42 := by decide +kernel

set_option maxHeartbeats 4000000 in
set_option maxRecDepth 100000 in
theorem awake_any (w : World) : Calls Tryd.prog 33 #[] w fun e w' => e = .returned (.bool true) ∧ Below w.heap.size w w' := by
  have hnot : ∀ (x : Bool) (w : World), (Op.unary .not (.bool x)).run Tryd.prog w = .ok (.bool (!x)) w := fun _ _ => rfl
  have A1 := Lib.hid a1
  have A2 := Lib.hid a2
  have A3 := Lib.hid a3
  have A4 := Lib.hid a4
  go_enter Tryd.func33, Tryd.ntmps33
  go_wp2_with fail
  refine (new_any 37 (.inl rfl) _).mono ?_
  rintro e w1 ⟨b, rfl, hb, hp, hw⟩
  have HP := Lib.hid (show PgV w.heap.size w1 (.pointer (some ⟨b, 0, none⟩)) 37 from .inr ⟨b, rfl, hb, hp⟩)
  have HW := Lib.hid hw
  clear hb hp hw
  go_wp2_with fail
  refine (cof_any w.heap.size _ 37 28 (by decide) _ HW.out.size HP.out).mono ?_
  rintro e w2 ⟨rfl, h1, h2, h3⟩
  rw [A1.out]
  have HP2 := Lib.hid h1
  have HW2 := Lib.hid (HW.out.trans h3)
  clear h1 h2 h3
  go_wp2_with fail
  refine (numeric_any w.heap.size _ 37 247 (by decide) _ HW2.out.size HP2.out).mono ?_
  rintro e w3 ⟨rfl, h1, h2, h3⟩
  rw [A2.out]
  have HP3 := Lib.hid h1
  have HW3 := Lib.hid (HW2.out.trans h3)
  clear h1 h2 h3
  go_wp2_with fail
  refine (numeric_any w.heap.size _ 37 193 (by decide) _ HW3.out.size HP3.out).mono ?_
  rintro e w4 ⟨rfl, h1, h2, h3⟩
  rw [A3.out]
  have HP4 := Lib.hid h1
  have HW4 := Lib.hid (HW3.out.trans h3)
  clear h1 h2 h3
  go_wp2_with fail
  refine (shown_any w.heap.size _ 37 28 (by decide) _ HW4.out.size HP4.out).mono ?_
  rintro e w5 ⟨rfl, h1, h2, h3⟩
  rw [A4.out]
  have HW5 := Lib.hid (HW4.out.trans h3)
  clear h1 h2 h3
  go_wp2_with fail
  go_ret
  exact ⟨rfl, HW5.out⟩

set_option maxHeartbeats 4000000 in
set_option maxRecDepth 100000 in
theorem pick_any (n : Nat) (hn : n < 256) (w : World) : Calls Tryd.prog 34 #[.int .u8 n] w fun e w' =>
    ∃ v k, e = .returned (.tuple #[v, .int .i64 k]) ∧ PgV w.heap.size w' v k ∧ Below w.heap.size w w' := by
  by_cases h6 : n % 7 = 6
  · have hr : (n : Int) % 7 = 6 := by omega
    clear h6
    go_enter Tryd.func34, Tryd.ntmps34
    go_wp2_with fail
    go_ret2
    exact ⟨_, _, rfl, .inl ⟨rfl, rfl⟩, (Below.refl _ _).alloc (Nat.le_refl _) _⟩
  · have key : ∀ (r : Nat) (k : Int), IsNum k → ([37, 273, 297, 500, 1047, 1140] : List Int)[r]? = some k → (n : Int) % 7 = r → r < 6 → Calls Tryd.prog 34 #[.int .u8 n] w fun e w' =>
        ∃ v k, e = .returned (.tuple #[v, .int .i64 k]) ∧ PgV w.heap.size w' v k ∧ Below w.heap.size w w' := by
      intro r k hk hl hr hr6
      have HL := Lib.hid hl
      have hbk : Bk (w.alloc (.cells #[.int .i64 37, .int .i64 273, .int .i64 297, .int .i64 500, .int .i64 1047, .int .i64 1140] 3)) w.heap.size 3 #[.int .i64 37, .int .i64 273, .int .i64 297, .int .i64 500, .int .i64 1047, .int .i64 1140] := Bk.new _ _ _
      have hk2 : (#[.int .i64 37, .int .i64 273, .int .i64 297, .int .i64 500, .int .i64 1047, .int .i64 1140] : Array Value)[r]? = some (.int .i64 k) := by
        have h : r = 0 ∨ r = 1 ∨ r = 2 ∨ r = 3 ∨ r = 4 ∨ r = 5 := by omega
        rcases h with rfl | rfl | rfl | rfl | rfl | rfl <;> (simp at hl; subst hl; rfl)
      have HK2 := Lib.hid hk2
      have HBK := Lib.hid hbk
      have hc : (w.alloc (.cells #[.int .i64 37, .int .i64 273, .int .i64 297, .int .i64 500, .int .i64 1047, .int .i64 1140] 3)).cell? ⟨w.heap.size, r, none⟩ = some (.int .i64 k) := hbk.cellv hk2
      have hb6 : ((r : Int) == 6) = false := beq_eq_false_iff_ne.2 (by omega)
      clear hl hbk hk2 h6
      go_enter Tryd.func34, Tryd.ntmps34
      go_wp2_with fail
      refine (new_any k hk _).mono ?_
      rintro e w1 ⟨b1, rfl, hb1, hp1, hw1⟩
      have h2 := hw1
      have h3 := hb1
      simp at h2 h3
      have HB1 := Lib.hid (show w.heap.size ≤ b1 by omega)
      have HP1 := Lib.hid hp1
      have HW1 := Lib.hid (((Below.refl w.heap.size w).alloc (Nat.le_refl _) _).trans (h2.mono (by omega)))
      have hc1 : w1.cell? ⟨w.heap.size, r, none⟩ = some (.int .i64 k) := (HBK.out.below hw1 HBK.out.lt).cellv HK2.out
      clear hb1 hp1 hw1 hc h2 h3
      go_wp2_with fail
      go_region
      go_wp2_with fail
      go_ret2
      exact ⟨_, _, rfl, .inr ⟨b1, rfl, HB1.out, HP1.out.drew⟩, HW1.out.drew⟩
    have h : n % 7 = 0 ∨ n % 7 = 1 ∨ n % 7 = 2 ∨ n % 7 = 3 ∨ n % 7 = 4 ∨ n % 7 = 5 := by omega
    rcases h with h | h | h | h | h | h
    · exact key 0 37 (by decide) rfl (by omega) (by omega)
    · exact key 1 273 (by decide) rfl (by omega) (by omega)
    · exact key 2 297 (by decide) rfl (by omega) (by omega)
    · exact key 3 500 (by decide) rfl (by omega) (by omega)
    · exact key 4 1047 (by decide) rfl (by omega) (by omega)
    · exact key 5 1140 (by decide) rfl (by omega) (by omega)
end Go.Proofs.YtcibhchbgendaaaDoor.L2
