/- The walk of vitrineref01.Num: a number of digits to the base 16. -/
import Derived.Test.YtcibhchbgendaabVw
import Derived.Test.YtcibhchbgendaabRfDig
import Derived.Test.YtcibhchbgendaabProg
import Derived.KernelRfl
import Derived.Outline
namespace Go.Proofs.Ytcibhchbgendaab.Rf
open Go Go.RowKit

set_option maxHeartbeats 800000 in
theorem num_any (s : ByteArray) (hs : s.size ≤ maxLen) (w : World) :
    Calls Try.prog 57 #[.string s] w fun e w' => e = .returned (.int .i64 (num s.data.toList 0)) ∧ w' = w := by
  unfold maxLen at hs
  go_enter Try.func57, Try.ntmps57
  go_wp2
  go_loop [3, 4] (fun n i => ∃ k : Nat, k ≤ s.size ∧ i = .int .i64 k ∧ n = .int .i64 (num (s.data.toList.take k) 0)) (fun _ i => s.size - (intOf i).toNat)
  case atStart => exact ⟨0, Nat.zero_le _, rfl, rfl⟩
  case round =>
    obtain ⟨k, hk, rfl, rfl⟩ := hrel
    by_cases hlt : k < s.size
    · have HS := Lib.hid (show num (s.data.toList.take (k + 1)) 0 = wrap64 (wrap64 (16 * num (s.data.toList.take k) 0) + dig s[k]) from by rw [take_snoc s k hlt, num_snoc])
      generalize num (s.data.toList.take k) 0 = n at *
      go_wp2
      · have hd : dig s[k] = ((s[k].toNat : Int) - 97) % 256 + 10 := if_pos (by assumption)
        go_round
        case rel => exact ⟨k + 1, by omega, by go_num, by rw [HS.out, hd]⟩
        case measure => simp [intOf]; omega
      · have hd : dig s[k] = ((s[k].toNat : Int) - 48) % 256 := if_neg (by omega)
        go_round
        case rel => exact ⟨k + 1, by omega, by go_num, by rw [HS.out, hd]⟩
        case measure => simp [intOf]; omega
    · go_wp2
      go_ret
      exact ⟨by rw [List.take_of_length_le (by simp; omega)]; rfl, rfl⟩
end Go.Proofs.Ytcibhchbgendaab.Rf
