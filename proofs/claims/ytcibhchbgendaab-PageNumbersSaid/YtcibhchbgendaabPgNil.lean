/- A page that is none; vitrineref01.Is. -/
import Derived.Test.YtcibhchbgendaabPgCore
import Derived.Test.YtcibhchbgendaabRfSign
namespace Go.Proofs.Ytcibhchbgendaab.Cl
open Go Go.RowKit Go.Proofs.Ytcibhchbgendaab.Pg Go.Proofs.Ytcibhchbgendaab.Rf

theorem nil_eq (w : World) : (binOp .eql 24 (.pointer none) (.pointer none)).run Try.prog w = .ok (.bool true) w := by kernel_rfl

set_option maxHeartbeats 2000000 in
set_option maxRecDepth 100000 in
theorem nilNumber (w : World) : Calls Try.prog 48 #[.pointer none] w fun e w' => e = .returned (.int .i64 0) ∧ w' = w := by
  have hn := nil_eq
  go_enter Try.func48, Try.ntmps48
  go_wp2
  go_ret
  exact ⟨rfl, rfl⟩
set_option maxHeartbeats 2000000 in
set_option maxRecDepth 100000 in
theorem nilSign (c : Nat) (w : World) : Calls Try.prog 49 #[.pointer none, .int .u8 c] w fun e w' => e = .returned (.int .i32 0) ∧ w' = w := by
  have hn := nil_eq
  go_enter Try.func49, Try.ntmps49
  go_wp2
  go_ret
  exact ⟨rfl, rfl⟩
set_option maxHeartbeats 2000000 in
set_option maxRecDepth 100000 in
theorem nilCode (s : Int) (w : World) : Calls Try.prog 44 #[.pointer none, .int .i32 s] w fun e w' => e = .returned (.tuple #[.int .u8 0, .bool false]) ∧ w' = w := by
  have hn := nil_eq
  go_enter Try.func44, Try.ntmps44
  go_wp2
  go_ret2
  exact ⟨rfl, rfl⟩
set_option maxHeartbeats 2000000 in
set_option maxRecDepth 100000 in
theorem nilCodes (s : ByteArray) (w : World) : Calls Try.prog 27 #[.pointer none, .string s] w fun e w' => e = .returned (.tuple #[.slice none 0 0, .int .i64 0, .int .i64 5]) ∧ w' = w := by
  have hn := nil_eq
  go_enter Try.func27, Try.ntmps27
  go_wp2
  go_ret3
  exact ⟨rfl, rfl⟩
set_option maxHeartbeats 2000000 in
set_option maxRecDepth 100000 in
theorem nilText (x : Value) (w : World) : Calls Try.prog 25 #[.pointer none, x] w fun e w' => e = .returned (.string ⟨#[]⟩) ∧ w' = w := by
  have hn := nil_eq
  go_enter Try.func25, Try.ntmps25
  go_wp2
  go_ret
  exact ⟨rfl, rfl⟩
set_option maxHeartbeats 2000000 in
set_option maxRecDepth 100000 in
theorem nilUpper (c : Nat) (w : World) : Calls Try.prog 50 #[.pointer none, .int .u8 c] w fun e w' => e = .returned (.int .u8 c) ∧ w' = w := by
  have hn := nil_eq
  go_enter Try.func50, Try.ntmps50
  go_wp2_with fail
  refine (nilSign c _).mono ?_
  rintro e w1 ⟨rfl, rfl⟩
  go_wp2_with fail
  go_ret
  exact ⟨rfl, rfl⟩
set_option maxHeartbeats 2000000 in
set_option maxRecDepth 100000 in
theorem is_any (k : Int) (hk : IsNum k) (w : World) : Calls Try.prog 45 #[.int .i64 k] w fun e w' => e = .returned (.bool true) ∧ w' = w := by
  go_enter Try.func45, Try.ntmps45
  go_wp2_with fail
  refine (rothers_any k hk _).mono ?_
  rintro e w1 ⟨L, rfl, _, rfl⟩
  go_wp2_with fail
  go_ret
  exact ⟨rfl, rfl⟩
set_option maxHeartbeats 2000000 in
set_option maxRecDepth 100000 in
theorem is_no (k : Int) (hk : ¬ IsNum k) (w : World) : Calls Try.prog 45 #[.int .i64 k] w fun e w' => e = .returned (.bool false) ∧ w' = w := by
  go_enter Try.func45, Try.ntmps45
  go_wp2_with fail
  refine (rothers_no k hk _).mono ?_
  rintro e w1 ⟨rfl, rfl⟩
  go_wp2_with fail
  go_ret
  exact ⟨rfl, rfl⟩
end Go.Proofs.Ytcibhchbgendaab.Cl
