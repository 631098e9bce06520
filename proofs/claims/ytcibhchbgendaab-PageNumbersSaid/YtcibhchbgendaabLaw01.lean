/- The walks of the laws of layer 1 that ask pages alone: awake, pick, and the laws themselves. -/
import Derived.Test.YtcibhchbgendaabPgUpper
namespace Go.Proofs.Ytcibhchbgendaab.L1
open Go Go.RowKit Go.Proofs.Ytcibhchbgendaab.Pg

theorem n37 : IsNum 37 := .inl rfl
theorem n273 : IsNum 273 := .inr (.inl rfl)
theorem n1140 : IsNum 1140 := .inr (.inr (.inr (.inr (.inr rfl))))
theorem c228 : codeOf 273 228 = some 192 := by decide +kernel
theorem s193 : signOf 37 193 = 65 := by decide +kernel
theorem s159 : signOf 1140 159 = 8364 := by decide +kernel

set_option maxHeartbeats 4000000 in
set_option maxRecDepth 100000 in
theorem awake_any (w : World) : Calls Try.prog 22 #[] w fun e w' => e = .returned (.bool true) ∧ Below w.heap.size w w' := by
  have HC := Lib.hid c228
  have H1 := Lib.hid s193
  have H2 := Lib.hid s159
  go_enter Try.func22, Try.ntmps22
  go_wp2_with fail
  refine (new_any 37 n37 _).mono ?_
  rintro e w1 ⟨b1, rfl, hb1, hp1, hw1⟩
  have HB1 := Lib.hid hb1
  have HP1 := Lib.hid hp1
  have HW1 := Lib.hid hw1
  clear hb1 hp1 hw1
  go_wp2_with fail
  refine (new_any 273 n273 _).mono ?_
  rintro e w2 ⟨b2, rfl, hb2, hp2, hw2⟩
  have HB2 := Lib.hid hb2
  have HP2 := Lib.hid hp2
  have HP12 := Lib.hid (HP1.out.below hw2)
  have HW2 := Lib.hid (HW1.out.trans (hw2.mono HW1.out.size))
  have HN12 := Lib.hid (show b1 ≠ b2 from by have := HP1.out.lt; omega)
  clear hb2 hp2 hw2 HP1
  go_wp2_with fail
  refine (new_any 1140 n1140 _).mono ?_
  rintro e w3 ⟨b3, rfl, hb3, hp3, hw3⟩
  have HP3 := Lib.hid hp3
  have HP13 := Lib.hid (HP12.out.below hw3)
  have HP23 := Lib.hid (HP2.out.below hw3)
  have HW3 := Lib.hid (HW2.out.trans (hw3.mono HW2.out.size))
  have HN13 := Lib.hid (show b1 ≠ b3 from by have := HP12.out.lt; omega)
  have HN23 := Lib.hid (show b2 ≠ b3 from by have := HP2.out.lt; omega)
  have HL2 := Lib.hid (show w.heap.size ≤ b2 from by have := HB2.out; have := HW1.out.size; omega)
  have HL3 := Lib.hid (show w.heap.size ≤ b3 from by have := HW2.out.size; omega)
  clear hb3 hp3 hw3 HP12 HP2
  go_wp2_with fail
  refine (code_any b2 273 228 (by decide) _ HP23.out).mono ?_
  rintro e w4 ⟨rfl, h1, h2⟩
  rw [HC.out]
  obtain ⟨cs2, hcs2⟩ := HP23.out.bk
  have HP14 := Lib.hid (HP13.out.other h1 HN12.out hcs2)
  have HP34 := Lib.hid (HP3.out.other h1 (Ne.symm HN23.out) hcs2)
  have HW4 := Lib.hid (below_gb HW3.out h1 (Nat.le_refl _) HL2.out)
  clear h1 h2 hcs2 HP13 HP3 HP23
  go_wp2_with fail
  refine (sign_any b1 37 193 (by decide) _ HP14.out).mono ?_
  rintro e w5 ⟨rfl, h1, h2⟩
  rw [H1.out]
  obtain ⟨cs1, hcs1⟩ := HP14.out.bk
  have HP35 := Lib.hid (HP34.out.other h1 (Ne.symm HN13.out) hcs1)
  have HW5 := Lib.hid (below_gb HW4.out h1 (Nat.le_refl _) HB1.out)
  clear h1 h2 hcs1 HP14 HP34
  go_wp2_with fail
  refine (sign_any b3 1140 159 (by decide) _ HP35.out).mono ?_
  rintro e w6 ⟨rfl, h1, h2⟩
  rw [H2.out]
  have HW6 := Lib.hid (below_gb HW5.out h1 (Nat.le_refl _) HL3.out)
  clear h1 h2
  go_wp2_with fail
  go_ret
  exact ⟨rfl, HW6.out⟩

set_option maxHeartbeats 4000000 in
set_option maxRecDepth 100000 in
theorem pick_any (n : Nat) (hn : n < 256) (w : World) : Calls Try.prog 23 #[.int .u8 n] w fun e w' =>
    ∃ b k, e = .returned (.tuple #[.pointer (some ⟨b, 0, none⟩), .int .i64 k]) ∧ IsNum k ∧ w.heap.size ≤ b ∧ PageAt w' b k ∧ Below w.heap.size w w' := by
  have key : ∀ (r : Nat) (k : Int), IsNum k → ([37, 273, 297, 500, 1047, 1140] : List Int)[r]? = some k → (n : Int) % 6 = r → r < 6 → Calls Try.prog 23 #[.int .u8 n] w fun e w' =>
      ∃ b k, e = .returned (.tuple #[.pointer (some ⟨b, 0, none⟩), .int .i64 k]) ∧ IsNum k ∧ w.heap.size ≤ b ∧ PageAt w' b k ∧ Below w.heap.size w w' := by
    intro r k hk hl hr hr6
    have HL := Lib.hid hl
    have hbk : Bk (w.alloc (.cells #[.int .i64 37, .int .i64 273, .int .i64 297, .int .i64 500, .int .i64 1047, .int .i64 1140] 3)) w.heap.size 3 #[.int .i64 37, .int .i64 273, .int .i64 297, .int .i64 500, .int .i64 1047, .int .i64 1140] := Bk.new _ _ _
    have hc : (w.alloc (.cells #[.int .i64 37, .int .i64 273, .int .i64 297, .int .i64 500, .int .i64 1047, .int .i64 1140] 3)).cell? ⟨w.heap.size, r, none⟩ = some (.int .i64 k) := by
      refine hbk.cellv ?_
      have h : r = 0 ∨ r = 1 ∨ r = 2 ∨ r = 3 ∨ r = 4 ∨ r = 5 := by omega
      rcases h with rfl | rfl | rfl | rfl | rfl | rfl <;> (simp at hl; subst hl; rfl)
    clear hl hbk
    go_enter Try.func23, Try.ntmps23
    go_wp2_with (first | (go_at_call 47; go_in) | (go_at_call 42; refine (new_any k hk _).mono ?_; rintro e w1 ⟨b1, rfl, hb1, hp1, hw1⟩; have HB1 := Lib.hid hb1; have HP1 := Lib.hid hp1; have HW1 := Lib.hid hw1; clear hb1 hp1 hw1))
    go_ret2
    have h1 := HB1.out
    have h2 := HW1.out
    simp at h1 h2
    exact ⟨_, _, rfl, hk, by omega, HP1.out, ((Below.refl _ w).alloc (Nat.le_refl _) _).trans (h2.mono (by omega))⟩
  have h : n % 6 = 0 ∨ n % 6 = 1 ∨ n % 6 = 2 ∨ n % 6 = 3 ∨ n % 6 = 4 ∨ n % 6 = 5 := by omega
  rcases h with h | h | h | h | h | h
  · exact key 0 37 (by decide) rfl (by omega) (by omega)
  · exact key 1 273 (by decide) rfl (by omega) (by omega)
  · exact key 2 297 (by decide) rfl (by omega) (by omega)
  · exact key 3 500 (by decide) rfl (by omega) (by omega)
  · exact key 4 1047 (by decide) rfl (by omega) (by omega)
  · exact key 5 1140 (by decide) rfl (by omega) (by omega)
end Go.Proofs.Ytcibhchbgendaab.L1
