/- The walks of vitrineref02. -/
import Derived.Test.YtcibhchbgendaaaDoorClPure
import Derived.Test.YtcibhchbgendaaaDoorRfSign
import Derived.Test.YtcibhchbgendaaaDoorPgMem
namespace Go.Proofs.YtcibhchbgendaaaDoor.R2
open Go Go.RowKit Go.Proofs.YtcibhchbgendaaaDoor.Pg Go.Proofs.YtcibhchbgendaaaDoor.Rf Go.Proofs.YtcibhchbgendaaaDoor.Cl

def seven : List Nat := [12, 13, 21, 25, 28, 30, 63]

/-- the codes of the class Format -/
def sevenV : Array Value := #[.int .u8 12, .int .u8 13, .int .u8 21, .int .u8 25, .int .u8 28, .int .u8 30, .int .u8 63]
theorem seven_at {w : World} {g : Nat} (h : Bk w g 5 sevenV) {j : Nat} (hj : j < 7) : ∃ x : Nat, seven[j]? = some x ∧ w.cell? ⟨g, j, none⟩ = some (.int .u8 x) ∧ x < 256 := by
  have hc : j = 0 ∨ j = 1 ∨ j = 2 ∨ j = 3 ∨ j = 4 ∨ j = 5 ∨ j = 6 := by omega
  rcases hc with rfl | rfl | rfl | rfl | rfl | rfl | rfl <;> exact ⟨_, rfl, h.cellv rfl, by omega⟩

set_option maxHeartbeats 8000000 in
set_option maxRecDepth 100000 in
theorem rof_any (k : Int) (hk : IsNum k) (c : Nat) (hc : c < 256) (w : World) :
    Calls Tryd.prog 36 #[.int .i64 k, .int .u8 c] w fun e w' => e = .returned (.int .i64 (classOf k c)) ∧ Below w.heap.size w w' := by
  have HBK := Lib.hid (show Bk (w.alloc (.cells sevenV 5)) w.heap.size 5 sevenV from Bk.new _ _ _)
  go_enter Tryd.func36, Tryd.ntmps36
  go_wp2_with fail
  go_loopw [10] (fun i wr => ∃ j : Nat, j ≤ 7 ∧ i = .int .i64 j ∧ Bk wr w.heap.size 5 sevenV ∧ Below w.heap.size w wr ∧ c ∉ seven.take j) (fun i _ => 7 - (intOf i).toNat)
  case atStart => exact ⟨0, by omega, rfl, HBK.out, (Below.refl _ _).alloc (Nat.le_refl _) _, by simp⟩
  case round =>
    obtain ⟨j, hj, rfl, hb, hw, hq⟩ := hrel
    have HB := Lib.hid hb
    have HW := Lib.hid hw
    have HQ := Lib.hid hq
    clear hb hw hq
    by_cases hlt : j < 7
    · obtain ⟨x, hx, hcell, hx2⟩ := seven_at HB.out hlt
      have HX := Lib.hid hx
      clear hx
      by_cases he : x = c
      · have HE := Lib.hid he
        have fe := beq_iff_eq.2 (show (x : Int) = (c : Int) from by omega)
        clear he
        go_wp2_with fail
        go_ret
        have hm : c ∈ seven := by rw [← HE.out]; exact List.mem_of_getElem? HX.out
        have e : classOf k c = 1 := by
          simp only [seven, List.mem_cons, List.not_mem_nil, or_false] at hm
          unfold classOf
          rw [if_neg (by omega), if_pos (by omega)]
        exact ⟨by rw [e]; rfl, HW.out⟩
      · have HE := Lib.hid he
        have fe := beq_eq_false_iff_ne.2 (show ¬ (x : Int) = (c : Int) from by omega)
        clear he
        go_wp2_with fail
        go_roundw
        case rel =>
          refine ⟨j + 1, by omega, by go_num, HB.out, HW.out, ?_⟩
          rw [List.take_add_one, HX.out]
          intro h
          rcases List.mem_append.1 h with h | h
          · exact HQ.out h
          · simp at h; exact HE.out h.symm
        case measure => simp [intOf]; omega
    · have hq := HQ.out
      rw [List.take_of_length_le (by show 7 ≤ j; omega)] at hq
      simp only [seven, List.mem_cons, List.not_mem_nil, or_false] at hq
      have HN := Lib.hid hq
      clear hq
      have hr : c = 0 ∨ c = 255 ∨ (c < 64 ∧ c ≠ 0) ∨ c = 64 ∨ (64 < c ∧ c ≠ 255) := by omega
      rcases hr with h | h | h | h | h
      rotate_right
      · have HR := Lib.hid h
        first | have f0 := beq_iff_eq.2 (show (c : Int) = 0 from by omega) | have f0 := beq_eq_false_iff_ne.2 (show ¬ (c : Int) = 0 from by omega)
        first | have f1 := beq_iff_eq.2 (show (c : Int) = 255 from by omega) | have f1 := beq_eq_false_iff_ne.2 (show ¬ (c : Int) = 255 from by omega)
        first | have f2 := decide_eq_true (show (c : Int) < 64 from by omega) | have f2 := decide_eq_false (show ¬ (c : Int) < 64 from by omega)
        first | have f3 := beq_iff_eq.2 (show (c : Int) = 64 from by omega) | have f3 := beq_eq_false_iff_ne.2 (show ¬ (c : Int) = 64 from by omega)
        clear h
        obtain ⟨s, hs⟩ : ∃ s, s = signOf k c := ⟨_, rfl⟩
        have HS := Lib.hid hs
        clear hs
        have hr : s < 48 ∨ (48 ≤ s ∧ s < 58) ∨ (58 ≤ s ∧ s < 65) ∨ (65 ≤ s ∧ s < 91) ∨ (91 ≤ s ∧ s < 97) ∨ (97 ≤ s ∧ s < 123) ∨ (123 ≤ s ∧ s < 192) ∨ (192 ≤ s ∧ s < 215) ∨ s = 215 ∨ (216 ≤ s ∧ s < 247) ∨ s = 247 ∨ (248 ≤ s ∧ s < 256) ∨ 256 ≤ s := by omega
        rcases hr with h | h | h | h | h | h | h | h | h | h | h | h | h
        all_goals
          have HR2 := Lib.hid h
          first | have g0 := decide_eq_true (show 48 ≤ s from by omega) | have g0 := decide_eq_false (show ¬ 48 ≤ s from by omega)
          first | have g1 := decide_eq_true (show s ≤ 57 from by omega) | have g1 := decide_eq_false (show ¬ s ≤ 57 from by omega)
          first | have g2 := decide_eq_true (show 97 ≤ s from by omega) | have g2 := decide_eq_false (show ¬ 97 ≤ s from by omega)
          first | have g3 := decide_eq_true (show s ≤ 122 from by omega) | have g3 := decide_eq_false (show ¬ s ≤ 122 from by omega)
          first | have g4 := decide_eq_true (show 65 ≤ s from by omega) | have g4 := decide_eq_false (show ¬ 65 ≤ s from by omega)
          first | have g5 := decide_eq_true (show s ≤ 90 from by omega) | have g5 := decide_eq_false (show ¬ s ≤ 90 from by omega)
          first | have g6 := decide_eq_true (show 192 ≤ s from by omega) | have g6 := decide_eq_false (show ¬ 192 ≤ s from by omega)
          first | have g7 := decide_eq_true (show s ≤ 255 from by omega) | have g7 := decide_eq_false (show ¬ s ≤ 255 from by omega)
          first | have g8 := bne_iff_ne.2 (show s ≠ 215 from by omega) | have g8 := bne_eq_false_iff_eq.2 (show s = 215 from by omega)
          first | have g9 := bne_iff_ne.2 (show s ≠ 247 from by omega) | have g9 := bne_eq_false_iff_eq.2 (show s = 247 from by omega)
          clear h
          go_wp2_with (first | (go_at_call 54; refine (rsign_any k hk c hc _).mono ?_; rintro e w1 ⟨rfl, rfl⟩; rw [← HS.out]))
          go_ret
          have h := HR.out
          have hn := HN.out
          have e : classOf k c = signedOf s := by
            unfold classOf
            rw [if_neg (by omega), if_neg (by omega), if_neg (by omega), if_neg (by omega), if_neg (by omega), ← HS.out]
          have h2 := HR2.out
          refine ⟨?_, HW.out⟩
          rw [e]
          first
          | (have e : signedOf s = 5 := by (unfold signedOf; rw [if_pos (by omega)])
             rw [e]; rfl)
          | (have e : signedOf s = 6 := by (unfold signedOf; rw [if_neg (by omega)]; first | rw [if_pos (by omega)] | (rw [if_neg (by omega), if_pos (by omega)]))
             rw [e]; rfl)
          | (have e : signedOf s = 7 := by (unfold signedOf; rw [if_neg (by omega), if_neg (by omega), if_neg (by omega)])
             rw [e]; rfl)
      all_goals
        have HR := Lib.hid h
        first | have f0 := beq_iff_eq.2 (show (c : Int) = 0 from by omega) | have f0 := beq_eq_false_iff_ne.2 (show ¬ (c : Int) = 0 from by omega)
        first | have f1 := beq_iff_eq.2 (show (c : Int) = 255 from by omega) | have f1 := beq_eq_false_iff_ne.2 (show ¬ (c : Int) = 255 from by omega)
        first | have f2 := decide_eq_true (show (c : Int) < 64 from by omega) | have f2 := decide_eq_false (show ¬ (c : Int) < 64 from by omega)
        first | have f3 := beq_iff_eq.2 (show (c : Int) = 64 from by omega) | have f3 := beq_eq_false_iff_ne.2 (show ¬ (c : Int) = 64 from by omega)
        clear h
        go_wp2_with fail
        go_ret
        have h := HR.out
        have hn := HN.out
        refine ⟨?_, HW.out⟩
        first
        | (have e : classOf k c = 0 := by (unfold classOf; rw [if_pos (by omega)])
           rw [e]; rfl)
        | (have e : classOf k c = 4 := by (unfold classOf; rw [if_neg (by omega), if_neg (by omega), if_pos (by omega)])
           rw [e]; rfl)
        | (have e : classOf k c = 2 := by (unfold classOf; rw [if_neg (by omega), if_neg (by omega), if_neg (by omega), if_pos (by omega)])
           rw [e]; rfl)
        | (have e : classOf k c = 3 := by (unfold classOf; rw [if_neg (by omega), if_neg (by omega), if_neg (by omega), if_neg (by omega), if_pos (by omega)])
           rw [e]; rfl)
end Go.Proofs.YtcibhchbgendaaaDoor.R2
