/- The walk of the law PageCommon. -/
import Derived.Test.YtcibhchbgendaaaWlkPageCodes
import Derived.Test.YtcibhchbgendaaaPgCom
namespace Go.Proofs.Ytcibhchbgendaaa.L1
open Go Go.RowKit Go.Proofs.Ytcibhchbgendaaa.Pg Go.Proofs.Ytcibhchbgendaaa.Rf

set_option maxHeartbeats 8000000 in
set_option maxRecDepth 100000 in
theorem pageCommon_walk (n m : Nat) (hn : n < 256) (hm : m < 256) (w : World) :
    Calls Try.prog 4 #[.int .u8 n, .int .u8 m] w fun e w' => e = .returned (.bool true) ∧ Below w.heap.size w w' := by
  have hnot : ∀ (x : Bool) (w : World), (Op.unary .not (.bool x)).run Try.prog w = .ok (.bool (!x)) w := fun _ _ => rfl
  go_enter Try.func4, Try.ntmps4
  go_wp2_with (first | (go_at_call 9; refine (awake_any _).mono ?_; rintro e w1 ⟨rfl, h1⟩; have HW1 := Lib.hid h1; clear h1))
  refine (pick_any n hn _).mono ?_
  rintro e w2 ⟨b, k, rfl, hk, hb, hp, hw⟩
  have HK := Lib.hid hk
  have HB := Lib.hid (Nat.le_trans HW1.out.size hb)
  have HP := Lib.hid hp
  have HW2 := Lib.hid (HW1.out.trans (hw.mono HW1.out.size))
  clear hk hb hp hw
  go_wp2_with fail
  refine (pick_any m hm _).mono ?_
  rintro e w3 ⟨b', k', rfl, hk, hb, hp, hw⟩
  have HK' := Lib.hid hk
  have HB' := Lib.hid (Nat.le_trans HW2.out.size hb)
  have HN := Lib.hid (show b ≠ b' from by have := HP.out.lt; omega)
  have HPP := Lib.hid (HP.out.below hw)
  have HP' := Lib.hid hp
  have HW3 := Lib.hid (HW2.out.trans (hw.mono HW2.out.size))
  clear hk hb hp hw
  go_wp2_with fail
  go_loopw [9] (fun i wr => ∃ j : Nat, 32 ≤ j ∧ j ≤ 123 ∧ i = .int .i32 j ∧ PageAt wr b k ∧ PageAt wr b' k' ∧ Below w.heap.size w wr) (fun i _ => 123 - (intOf i).toNat)
  case atStart => exact ⟨32, by omega, by omega, rfl, HPP.out, HP'.out, HW3.out⟩
  case round =>
    obtain ⟨j, hj0, hj1, rfl, hp1, hp2, hw⟩ := hrel
    have Q1 := Lib.hid hp1
    have Q2 := Lib.hid hp2
    have QW := Lib.hid hw
    have HC := Lib.hid (com_code (s := j))
    clear hp1 hp2 hw
    by_cases hlt : j ≤ 122
    · have hcase : j = 32 ∨ (33 ≤ j ∧ j ≤ 47) ∨ (48 ≤ j ∧ j ≤ 57) ∨ (58 ≤ j ∧ j ≤ 64) ∨ (65 ≤ j ∧ j ≤ 90) ∨ (91 ≤ j ∧ j ≤ 96) ∨ 97 ≤ j := by omega
      have HL := Lib.hid hlt
      have HT := Lib.hid hj0
      rcases hcase with h | h | h | h | h | h | h
      all_goals
        first | have a1 := decide_eq_true (show 48 ≤ (j : Int) from by omega) | have a1 := decide_eq_false (show ¬ 48 ≤ (j : Int) from by omega)
        first | have a2 := decide_eq_true (show (j : Int) ≤ 57 from by omega) | have a2 := decide_eq_false (show ¬ (j : Int) ≤ 57 from by omega)
        first | have a3 := decide_eq_true (show 65 ≤ (j : Int) from by omega) | have a3 := decide_eq_false (show ¬ 65 ≤ (j : Int) from by omega)
        first | have a4 := decide_eq_true (show (j : Int) ≤ 90 from by omega) | have a4 := decide_eq_false (show ¬ (j : Int) ≤ 90 from by omega)
        first | have a5 := decide_eq_true (show 97 ≤ (j : Int) from by omega) | have a5 := decide_eq_false (show ¬ 97 ≤ (j : Int) from by omega)
        first | have a6 := decide_eq_true (show (j : Int) ≤ 122 from by omega) | have a6 := decide_eq_false (show ¬ (j : Int) ≤ 122 from by omega)
        first | have a0 := beq_iff_eq.2 (show (j : Int) = 32 from by omega) | have a0 := beq_eq_false_iff_ne.2 (show ¬ (j : Int) = 32 from by omega)
        have HH := Lib.hid h
        clear hlt hj0 h
        go_wp2_with fail
        refine (code_any b k j (wf32 (by have := HT.out; omega) (by have := HL.out; omega)) _ Q1.out).mono ?_
        rintro e w4 ⟨rfl, h1, h2⟩
        obtain ⟨cs1, hcs1⟩ := Q1.out.bk
        have R1 := Lib.hid h2
        have R2 := Lib.hid (Q2.out.other h1 (Ne.symm HN.out) hcs1)
        have RW := Lib.hid (below_gb QW.out h1 (Nat.le_refl _) HB.out)
        clear h1 h2 hcs1
        have hco : comB j = true → ∃ c : Nat, c < 256 ∧ codeOf k j = some c ∧ codeOf k' j = some c := fun h => by
          obtain ⟨c, hc, hk⟩ := HC.out HL.out h
          exact ⟨c, hc, hk k HK.out, hk k' HK'.out⟩
        have HCO := Lib.hid hco
        clear hco
        cases hcb : comB j with
        | false =>
          first
          | (exfalso; have hh := HH.out; have hl := HL.out; have ht := HT.out; revert hcb; simp [comB]; omega)
          | (have HF := Lib.hid hcb
             clear hcb
             go_wp2_with fail
             refine (code_any b' k' j (wf32 (by have := HT.out; omega) (by have := HL.out; omega)) _ R2.out).mono ?_
             rintro e w5 ⟨rfl, h1, h2⟩
             obtain ⟨cs2, hcs2⟩ := R2.out.bk
             have S1 := Lib.hid (R1.out.other h1 HN.out hcs2)
             have S2 := Lib.hid h2
             have SW := Lib.hid (below_gb RW.out h1 (Nat.le_refl _) HB'.out)
             clear h1 h2 hcs2
             generalize codeOf k j = x1
             generalize codeOf k' j = x2
             go_wp2_with fail
             go_roundw
             case rel => exact ⟨j + 1, by have := HT.out; omega, by have := HL.out; omega, by go_num, S1.out, S2.out, SW.out⟩
             case measure => have := HL.out; simp [intOf]; omega)
        | true =>
          first
          | (exfalso; have hh := HH.out; have hl := HL.out; have ht := HT.out; revert hcb; simp [comB]; omega)
          | (have HF := Lib.hid hcb
             clear hcb
             go_wp2_with fail
             refine (code_any b' k' j (wf32 (by have := HT.out; omega) (by have := HL.out; omega)) _ R2.out).mono ?_
             rintro e w5 ⟨rfl, h1, h2⟩
             obtain ⟨cs2, hcs2⟩ := R2.out.bk
             have S1 := Lib.hid (R1.out.other h1 HN.out hcs2)
             have S2 := Lib.hid h2
             have SW := Lib.hid (below_gb RW.out h1 (Nat.le_refl _) HB'.out)
             clear h1 h2 hcs2
             obtain ⟨c, hc, e1, e2⟩ := HCO.out HF.out
             rw [e1, e2]
             clear e1 e2
             go_wp2_with fail
             go_roundw
             case rel => exact ⟨j + 1, by have := HT.out; omega, by have := HL.out; omega, by go_num, S1.out, S2.out, SW.out⟩
             case measure => have := HL.out; simp [intOf]; omega)
    · go_wp2
      go_ret
      exact ⟨rfl, QW.out⟩

theorem pageCommon_any (x y : Int) (hx : (Lit.int .u8 x).wf = true) (hy : (Lit.int .u8 y).wf = true) (w : World) :
    Calls Try.prog 4 #[.int .u8 x, .int .u8 y] w fun e w' => e = .returned (.bool true) ∧ Below w.heap.size w w' := by
  obtain ⟨n, hn, rfl⟩ := byte_nat hx
  obtain ⟨m, hm, rfl⟩ := byte_nat hy
  exact pageCommon_walk n m hn hm w
end Go.Proofs.Ytcibhchbgendaaa.L1
