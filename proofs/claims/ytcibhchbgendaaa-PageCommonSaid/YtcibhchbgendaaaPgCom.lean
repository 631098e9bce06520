/- The signs that all pages have at one code: no program in sight. -/
import Derived.Test.YtcibhchbgendaaaPgPure2
namespace Go.Proofs.Ytcibhchbgendaaa.Pg

def comPairs : List (Nat × Int) := [(64, 32), (240, 48), (241, 49), (242, 50), (243, 51), (244, 52), (245, 53), (246, 54), (247, 55), (248, 56), (249, 57), (193, 65), (194, 66), (195, 67), (196, 68), (197, 69), (198, 70), (199, 71), (200, 72), (201, 73), (209, 74), (210, 75), (211, 76), (212, 77), (213, 78), (214, 79), (215, 80), (216, 81), (217, 82), (226, 83), (227, 84), (228, 85), (229, 86), (230, 87), (231, 88), (232, 89), (233, 90), (129, 97), (130, 98), (131, 99), (132, 100), (133, 101), (134, 102), (135, 103), (136, 104), (137, 105), (145, 106), (146, 107), (147, 108), (148, 109), (149, 110), (150, 111), (151, 112), (152, 113), (153, 114), (162, 115), (163, 116), (164, 117), (165, 118), (166, 119), (167, 120), (168, 121), (169, 122)]
theorem com_table : nums.all (fun k => let l := signs k; comPairs.all (fun p => decide (p.1 < 256) && l.getD p.1 0 == p.2)) = true := by decide +kernel
/-- is it a sign that all pages have at one code -/
def comB (s : Nat) : Bool := s == 32 || (decide (48 ≤ s) && decide (s ≤ 57)) || (decide (65 ≤ s) && decide (s ≤ 90)) || (decide (97 ≤ s) && decide (s ≤ 122))
theorem com_all : (List.range 123).all (fun s => !comB s || comPairs.any (fun p => p.2 == (s : Int))) = true := by decide +kernel
theorem com_code {s : Nat} (hs : s ≤ 122) (h : comB s = true) : ∃ c : Nat, c < 256 ∧ ∀ k, IsNum k → codeOf k s = some c := by
  have h1 := List.all_eq_true.1 com_all s (List.mem_range.2 (by omega))
  rw [h] at h1
  simp only [Bool.not_true, Bool.false_or, List.any_eq_true, beq_iff_eq] at h1
  obtain ⟨p, hp, he⟩ := h1
  have hk : ∀ k, IsNum k → p.1 < 256 ∧ signOf k p.1 = p.2 := fun k hk => by
    have h2 := List.all_eq_true.1 (List.all_eq_true.1 com_table k (isnum_nums hk)) p hp
    simp only [Bool.and_eq_true, decide_eq_true_eq, beq_iff_eq] at h2
    exact h2
  exact ⟨p.1, (hk 37 (.inl rfl)).1, fun k hn => codeOf_first hn (hk k hn).1 ((hk k hn).2.trans he)⟩
end Go.Proofs.Ytcibhchbgendaaa.Pg
