/- The walk of the law PageCodes. -/
import Derived.Test.YtcibhchbgendaaaLaw01
namespace Go.Proofs.Ytcibhchbgendaaa.L1
open Go Go.RowKit Go.Proofs.Ytcibhchbgendaaa.Pg Go.Proofs.Ytcibhchbgendaaa.Rf

set_option maxHeartbeats 4000000 in
set_option maxRecDepth 100000 in
theorem pageCodes_walk (n : Nat) (hn : n < 256) (s : Int) (hs : (Lit.int .i32 s).wf = true) (w : World) :
    Calls Try.prog 3 #[.int .u8 n, .int .i32 s] w fun e w' => e = .returned (.bool true) ∧ Below w.heap.size w w' := by
  have hnot : ∀ (x : Bool) (w : World), (Op.unary .not (.bool x)).run Try.prog w = .ok (.bool (!x)) w := fun _ _ => rfl
  have HS := Lib.hid hs
  clear hs
  go_enter Try.func3, Try.ntmps3
  go_wp2_with (first | (go_at_call 9; refine (awake_any _).mono ?_; rintro e w1 ⟨rfl, h1⟩; have HW1 := Lib.hid h1; clear h1) | (go_at_call 10; refine (pick_any n hn _).mono ?_; rintro e w2 ⟨b, k, rfl, hk, hb, hp, hw⟩; have HK := Lib.hid hk; have HB := Lib.hid hb; have HP := Lib.hid hp; have HW2 := Lib.hid (HW1.out.trans (hw.mono HW1.out.size)); clear hk hb hp hw))
  refine (code_any b k s HS.out _ HP.out).mono ?_
  rintro e w3 ⟨rfl, h1, h2⟩
  have HW3 := Lib.hid (below_gb HW2.out h1 (Nat.le_refl _) (Nat.le_trans HW1.out.size HB.out))
  clear h1 h2
  cases hc : codeOf k s with
  | none =>
    have HN := Lib.hid (show codeNum k s = -1 from by unfold codeNum; rw [hc])
    clear hc
    go_wp2_with (first | (go_at_call 12; refine (rcode_any k HK.out _ _).mono ?_; rintro e w4 ⟨rfl, rfl⟩; rw [HN.out]))
    go_ret
    exact ⟨rfl, HW3.out⟩
  | some c =>
    have HN := Lib.hid (show codeNum k s = c from by unfold codeNum; rw [hc])
    obtain ⟨hc1, hc2⟩ := codeOf_some hc
    clear hc hc2
    go_wp2_with (first | (go_at_call 12; refine (rcode_any k HK.out _ _).mono ?_; rintro e w4 ⟨rfl, rfl⟩; rw [HN.out]))
    go_ret
    exact ⟨rfl, HW3.out⟩

/-- a byte that came in, as a natural number -/
theorem byte_nat {x : Int} (h : (Lit.int .u8 x).wf = true) : ∃ n : Nat, n < 256 ∧ x = n := by
  simp only [Lit.wf, show IntKind.u8.min = 0 from rfl, show IntKind.u8.max = 255 from rfl] at h
  simp only [Bool.and_eq_true, decide_eq_true_eq] at h
  exact ⟨x.toNat, by omega, by omega⟩

theorem pageCodes_any (x s : Int) (hx : (Lit.int .u8 x).wf = true) (hs : (Lit.int .i32 s).wf = true) (w : World) :
    Calls Try.prog 3 #[.int .u8 x, .int .i32 s] w fun e w' => e = .returned (.bool true) ∧ Below w.heap.size w w' := by
  obtain ⟨n, hn, rfl⟩ := byte_nat hx
  exact pageCodes_walk n hn s hs w
end Go.Proofs.Ytcibhchbgendaaa.L1
