/- The walks of the laws PageSigns and PageUppers. -/
import Derived.Test.YtcibhchbgendaaaWlkPageCodes
namespace Go.Proofs.Ytcibhchbgendaaa.L1
open Go Go.RowKit Go.Proofs.Ytcibhchbgendaaa.Pg Go.Proofs.Ytcibhchbgendaaa.Rf

theorem code_of_sign {k : Int} (hk : IsNum k) {c : Nat} (hc : c < 256) : codeOf k (signOf k c) = some c := codeOf_first hk hc rfl

set_option maxHeartbeats 8000000 in
set_option maxRecDepth 100000 in
theorem pageSigns_walk (n : Nat) (hn : n < 256) (w : World) :
    Calls Try.prog 5 #[.int .u8 n] w fun e w' => e = .returned (.bool true) ∧ Below w.heap.size w w' := by
  have hnot : ∀ (x : Bool) (w : World), (Op.unary .not (.bool x)).run Try.prog w = .ok (.bool (!x)) w := fun _ _ => rfl
  go_enter Try.func5, Try.ntmps5
  go_wp2_with (first | (go_at_call 9; refine (awake_any _).mono ?_; rintro e w1 ⟨rfl, h1⟩; have HW1 := Lib.hid h1; clear h1))
  refine (pick_any n hn _).mono ?_
  rintro e w2 ⟨b, k, rfl, hk, hb, hp, hw⟩
  have HK := Lib.hid hk
  have HB := Lib.hid (Nat.le_trans HW1.out.size hb)
  have HP := Lib.hid hp
  have HW2 := Lib.hid (HW1.out.trans (hw.mono HW1.out.size))
  clear hk hb hp hw
  go_wp2_with fail
  go_loopw [16] (fun i wr => ∃ j : Nat, j ≤ 256 ∧ i = .int .i64 j ∧ PageAt wr b k ∧ Below w.heap.size w wr) (fun i _ => 256 - (intOf i).toNat)
  case atStart => exact ⟨0, by omega, rfl, HP.out, HW2.out⟩
  case round =>
    obtain ⟨j, hj1, rfl, hp1, hw⟩ := hrel
    have Q1 := Lib.hid hp1
    have QW := Lib.hid hw
    clear hp1 hw
    by_cases hlt : j < 256
    · have HC := Lib.hid (code_of_sign HK.out hlt)
      go_wp2_with fail
      refine (sign_any b k j hlt _ Q1.out).mono ?_
      rintro e w4 ⟨rfl, h1, h2⟩
      have R1 := Lib.hid h2
      have RW := Lib.hid (below_gb QW.out h1 (Nat.le_refl _) HB.out)
      clear h1 h2
      obtain ⟨hr1, hr2⟩ := signOf_range k j
      have hwf := wf32 (s := signOf k j) (by omega) (by omega)
      have HWF := Lib.hid hwf
      clear hwf
      go_wp2_with fail
      refine (code_any b k _ HWF.out _ R1.out).mono ?_
      rintro e w5 ⟨rfl, h1, h2⟩
      rw [HC.out]
      have S1 := Lib.hid h2
      have SW := Lib.hid (below_gb RW.out h1 (Nat.le_refl _) HB.out)
      clear h1 h2
      go_wp2_with fail
      refine (rsign_any k HK.out j hlt _).mono ?_
      rintro e w6 ⟨rfl, rfl⟩
      go_wp2_with fail
      go_roundw
      case rel => exact ⟨j + 1, by omega, by go_num, S1.out, SW.out⟩
      case measure => simp [intOf]; omega
    · go_wp2_with fail
      refine (number_any b k _ Q1.out).mono ?_
      rintro e w4 ⟨rfl, rfl⟩
      go_wp2_with fail
      go_ret
      exact ⟨by simp, QW.out⟩

set_option maxHeartbeats 8000000 in
set_option maxRecDepth 100000 in
theorem pageUppers_walk (n : Nat) (hn : n < 256) (w : World) :
    Calls Try.prog 6 #[.int .u8 n] w fun e w' => e = .returned (.bool true) ∧ Below w.heap.size w w' := by
  have hnot : ∀ (x : Bool) (w : World), (Op.unary .not (.bool x)).run Try.prog w = .ok (.bool (!x)) w := fun _ _ => rfl
  go_enter Try.func6, Try.ntmps6
  go_wp2_with (first | (go_at_call 9; refine (awake_any _).mono ?_; rintro e w1 ⟨rfl, h1⟩; have HW1 := Lib.hid h1; clear h1))
  refine (pick_any n hn _).mono ?_
  rintro e w2 ⟨b, k, rfl, hk, hb, hp, hw⟩
  have HK := Lib.hid hk
  have HB := Lib.hid (Nat.le_trans HW1.out.size hb)
  have HP := Lib.hid hp
  have HW2 := Lib.hid (HW1.out.trans (hw.mono HW1.out.size))
  clear hk hb hp hw
  go_wp2_with fail
  go_loopw [14] (fun i wr => ∃ j : Nat, j ≤ 256 ∧ i = .int .i64 j ∧ PageAt wr b k ∧ Below w.heap.size w wr) (fun i _ => 256 - (intOf i).toNat)
  case atStart => exact ⟨0, by omega, rfl, HP.out, HW2.out⟩
  case round =>
    obtain ⟨j, hj1, rfl, hp1, hw⟩ := hrel
    have Q1 := Lib.hid hp1
    have QW := Lib.hid hw
    clear hp1 hw
    by_cases hlt : j < 256
    · have HU := Lib.hid (upper_upper HK.out hlt)
      have hul := upper_lt k hlt
      go_wp2_with fail
      refine (pupper_any b k j hlt _ Q1.out).mono ?_
      rintro e w4 ⟨rfl, h1, h2⟩
      have R1 := Lib.hid h2
      have RW := Lib.hid (below_gb QW.out h1 (Nat.le_refl _) HB.out)
      clear h1 h2
      go_wp2_with fail
      refine (rupper_any k HK.out j hlt _).mono ?_
      rintro e w5 ⟨rfl, rfl⟩
      go_wp2_with fail
      refine (pupper_any b k _ hul _ R1.out).mono ?_
      rintro e w6 ⟨rfl, h1, h2⟩
      rw [HU.out]
      have S1 := Lib.hid h2
      have SW := Lib.hid (below_gb RW.out h1 (Nat.le_refl _) HB.out)
      clear h1 h2
      go_wp2_with fail
      go_roundw
      case rel => exact ⟨j + 1, by omega, by go_num, S1.out, SW.out⟩
      case measure => simp [intOf]; omega
    · go_wp2_with fail
      go_ret
      exact ⟨rfl, QW.out⟩

theorem pageSigns_any (x : Int) (hx : (Lit.int .u8 x).wf = true) (w : World) :
    Calls Try.prog 5 #[.int .u8 x] w fun e w' => e = .returned (.bool true) ∧ Below w.heap.size w w' := by
  obtain ⟨n, hn, rfl⟩ := byte_nat hx
  exact pageSigns_walk n hn w
theorem pageUppers_any (x : Int) (hx : (Lit.int .u8 x).wf = true) (w : World) :
    Calls Try.prog 6 #[.int .u8 x] w fun e w' => e = .returned (.bool true) ∧ Below w.heap.size w w' := by
  obtain ⟨n, hn, rfl⟩ := byte_nat hx
  exact pageUppers_walk n hn w
end Go.Proofs.Ytcibhchbgendaaa.L1
