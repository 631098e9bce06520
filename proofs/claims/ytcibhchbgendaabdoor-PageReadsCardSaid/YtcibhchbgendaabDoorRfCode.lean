/- The walks of vitrineref01's Code and Upper. -/
import Derived.Test.YtcibhchbgendaabDoorRfSign
import Derived.Test.YtcibhchbgendaabDoorPgSmall
namespace Go.Proofs.YtcibhchbgendaabDoor.Rf
open Go Go.RowKit Go.Proofs.YtcibhchbgendaabDoor.Pg

set_option maxHeartbeats 1600000 in
set_option maxRecDepth 100000 in
theorem rcode_any (k : Int) (hk : IsNum k) (s : Int) (w : World) :
    Calls Tryd.prog 8 #[.int .i64 k, .int .i32 s] w fun e w' => e = .returned (.int .i64 (codeNum k s)) ∧ w' = w := by
  go_enter Tryd.func8, Tryd.ntmps8
  go_wp2
  go_loop [5] (fun i => ∃ j : Nat, j ≤ 256 ∧ i = .int .i64 j ∧ (∀ q, q < j → signOf k q ≠ s)) (fun i => 256 - (intOf i).toNat)
  case atStart => exact ⟨0, by omega, rfl, fun q hq => by omega⟩
  case round =>
    obtain ⟨j, hj, rfl, hq⟩ := hrel
    have HQ := Lib.hid hq
    clear hq
    by_cases hlt : j < 256
    · by_cases hcc : signOf k j = s
      · have HC := Lib.hid hcc
        have hb : (signOf k j == s) = true := beq_iff_eq.2 hcc
        clear hcc
        go_wp2_with (first | (go_at_call 16; refine (rsign_any k hk j hlt _).mono ?_; rintro e w1 ⟨rfl, rfl⟩))
        go_ret
        refine ⟨?_, rfl⟩
        unfold codeNum
        rw [codeOf_first hk hlt HC.out]
        rfl
      · have HC := Lib.hid hcc
        have hb : (signOf k j == s) = false := beq_eq_false_iff_ne.2 hcc
        clear hcc
        go_wp2_with (first | (go_at_call 16; refine (rsign_any k hk j hlt _).mono ?_; rintro e w1 ⟨rfl, rfl⟩))
        go_round
        case rel =>
          refine ⟨j + 1, by omega, by go_num, fun q hq => ?_⟩
          by_cases e : q = j
          · subst e; exact HC.out
          · exact HQ.out q (by omega)
        case measure => simp [intOf]; omega
    · go_wp2
      go_ret
      refine ⟨?_, rfl⟩
      unfold codeNum
      rw [codeOf_none (fun q hq => HQ.out q (by omega))]
      rfl

end Go.Proofs.YtcibhchbgendaabDoor.Rf
