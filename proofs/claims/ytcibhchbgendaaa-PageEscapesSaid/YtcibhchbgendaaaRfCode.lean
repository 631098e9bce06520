/- The walks of vitrineref01's Code and Upper, page.small and (*Page).Upper. -/
import Derived.Test.YtcibhchbgendaaaRfSign
import Derived.Test.YtcibhchbgendaaaPgPure2
import Derived.Test.YtcibhchbgendaaaPgCore
import Derived.Deep.QuietTactic
import Derived.BigQuiet
namespace Go.Proofs.Ytcibhchbgendaaa.Rf
open Go Go.RowKit Go.Proofs.Ytcibhchbgendaaa.Pg

set_option maxHeartbeats 1600000 in
set_option maxRecDepth 100000 in
theorem rcode_any (k : Int) (hk : IsNum k) (s : Int) (w : World) :
    Calls Try.prog 12 #[.int .i64 k, .int .i32 s] w fun e w' => e = .returned (.int .i64 (codeNum k s)) ∧ w' = w := by
  go_enter Try.func12, Try.ntmps12
  go_wp2
  go_loop [5] (fun i => ∃ j : Nat, j ≤ 256 ∧ i = .int .i64 j ∧ (∀ q, q < j → signOf k q ≠ s)) (fun i => 256 - (intOf i).toNat)
  case atStart => exact ⟨0, by omega, rfl, fun q hq => by omega⟩
  case round =>
    obtain ⟨j, hj, rfl, hq⟩ := hrel
    have HQ := Lib.hid hq
    clear hq
    by_cases hlt : j < 256
    · by_cases hcc : signOf k j = s
      · have HC := Lib.hid hcc
        have hb : (signOf k j == s) = true := beq_iff_eq.2 hcc
        clear hcc
        go_wp2_with (first | (go_at_call 14; refine (rsign_any k hk j hlt _).mono ?_; rintro e w1 ⟨rfl, rfl⟩))
        go_ret
        refine ⟨?_, rfl⟩
        unfold codeNum
        rw [codeOf_first hk hlt HC.out]
        rfl
      · have HC := Lib.hid hcc
        have hb : (signOf k j == s) = false := beq_eq_false_iff_ne.2 hcc
        clear hcc
        go_wp2_with (first | (go_at_call 14; refine (rsign_any k hk j hlt _).mono ?_; rintro e w1 ⟨rfl, rfl⟩))
        go_round
        case rel =>
          refine ⟨j + 1, by omega, by go_num, fun q hq => ?_⟩
          by_cases e : q = j
          · subst e; exact HC.out
          · exact HQ.out q (by omega)
        case measure => simp [intOf]; omega
    · go_wp2
      go_ret
      refine ⟨?_, rfl⟩
      unfold codeNum
      rw [codeOf_none (fun q hq => HQ.out q (by omega))]
      rfl

/-- page.small -/
theorem small_any (s : Int) (w : World) : Calls Try.prog 32 #[.int .i32 s] w fun e w' => e = .returned (.bool (smallB s)) ∧ w' = w := by
  by_cases h5 : s = 247
  · subst h5
    go_enter Try.func32, Try.ntmps32
    go_wp2
    go_ret
    exact ⟨rfl, rfl⟩
  · have h5b : (s != 247) = true := by rw [bne_iff_ne]; exact h5
    have H5 := Lib.hid h5
    clear h5
    by_cases h1 : 97 ≤ s <;> by_cases h2 : s ≤ 122 <;> by_cases h3 : 224 ≤ s <;> by_cases h4 : s ≤ 254
    all_goals
      first
      | omega
      | (go_enter Try.func32, Try.ntmps32
         go_wp2
         go_ret
         refine ⟨?_, rfl⟩
         have h5 := H5.out
         first
         | (have e : smallB s = true := by (simp [smallB]; omega)
            rw [e]; rfl)
         | (have e : smallB s = false := by (simp [smallB]; omega)
            rw [e]; rfl))

theorem upper_not {k s : Int} {c : Nat} (hs : s = signOf k c) (h : smallB s = false) : upperOf k c = c := by
  unfold upperOf
  rw [← hs, h]
  rfl
theorem upper_none {k s : Int} {c : Nat} (hs : s = signOf k c) (h : smallB s = true) (hd : codeOf k (s - 32) = none) : upperOf k c = c := by
  unfold upperOf
  rw [← hs, h, hd]
  rfl
theorem upper_some {k s : Int} {c d : Nat} (hs : s = signOf k c) (h : smallB s = true) (hd : codeOf k (s - 32) = some d) : upperOf k c = d := by
  unfold upperOf
  rw [← hs, h, hd]
  rfl

set_option maxHeartbeats 4000000 in
set_option maxRecDepth 100000 in
theorem rupper_any (k : Int) (hk : IsNum k) (c : Nat) (hc : c < 256) (w : World) :
    Calls Try.prog 17 #[.int .i64 k, .int .u8 c] w fun e w' => e = .returned (.int .u8 (upperOf k c : Nat)) ∧ w' = w := by
  obtain ⟨hr1, hr2⟩ := signOf_range k c
  obtain ⟨s, hs⟩ : ∃ s, s = signOf k c := ⟨_, rfl⟩
  rw [← hs] at hr1 hr2
  have HS := Lib.hid hs
  clear hs
  have hnone : ∀ b : Bool, smallB s = b → b = false ∨ b = true := fun b _ => by cases b <;> simp
  cases hd : codeOf k (s - 32) with
  | none =>
    have HU := Lib.hid (show upperOf k c = c from by
      cases hb : smallB s
      · exact upper_not HS.out hb
      · exact upper_none HS.out hb hd)
    have HN := Lib.hid (show codeNum k (s - 32) = -1 from by unfold codeNum; rw [hd])
    clear hd hnone
    by_cases h5 : s = 247
    · have H5 := Lib.hid h5
      have h5b : (s != 247) = false := by simp [h5]
      have h5c : 224 ≤ s := by omega
      have h5d : s ≤ 254 := by omega
      have h5e : ¬ s ≤ 122 := by omega
      have h5f : 97 ≤ s := by omega
      have b1 := decide_eq_true h5f
      have b2 := decide_eq_false h5e
      have b3 := decide_eq_true h5c
      have b4 := decide_eq_true h5d
      clear h5 h5c h5d h5e h5f
      go_enter Try.func17, Try.ntmps17
      go_wp2_with (first | (go_at_call 14; refine (rsign_any k hk c hc _).mono ?_; rintro e w1 ⟨rfl, rfl⟩; rw [← HS.out]) | (go_at_call 12; refine (rcode_any k hk _ _).mono ?_; rintro e w1 ⟨rfl, rfl⟩; rw [HN.out]))
      go_ret
      exact ⟨by rw [HU.out]; rfl, rfl⟩
    · have h5b : (s != 247) = true := by rw [bne_iff_ne]; exact h5
      have H5 := Lib.hid h5
      clear h5
      by_cases h1 : 97 ≤ s <;> by_cases h2 : s ≤ 122 <;> by_cases h3 : 224 ≤ s <;> by_cases h4 : s ≤ 254
      all_goals
        first
        | omega
        | ((first | have b1 := decide_eq_false h1 | have b1 := decide_eq_true h1)
           have H1 := Lib.hid h1
           clear h1
           (first | have b2 := decide_eq_false h2 | have b2 := decide_eq_true h2)
           have H2 := Lib.hid h2
           clear h2
           (first | have b3 := decide_eq_false h3 | have b3 := decide_eq_true h3)
           have H3 := Lib.hid h3
           clear h3
           (first | have b4 := decide_eq_false h4 | have b4 := decide_eq_true h4)
           have H4 := Lib.hid h4
           clear h4
           go_enter Try.func17, Try.ntmps17
           go_wp2_with (first | (go_at_call 14; refine (rsign_any k hk c hc _).mono ?_; rintro e w1 ⟨rfl, rfl⟩; rw [← HS.out]) | (go_at_call 12; refine (rcode_any k hk _ _).mono ?_; rintro e w1 ⟨rfl, rfl⟩; rw [HN.out]))
           go_ret
           exact ⟨by rw [HU.out]; rfl, rfl⟩)
  | some d =>
    obtain ⟨hd1, hd2⟩ := codeOf_some hd
    have HD := Lib.hid hd
    have HN := Lib.hid (show codeNum k (s - 32) = d from by unfold codeNum; rw [hd])
    clear hd hnone hd2
    by_cases h5 : s = 247
    · have H5 := Lib.hid h5
      have h5b : (s != 247) = false := by simp [h5]
      have h5c : 224 ≤ s := by omega
      have h5d : s ≤ 254 := by omega
      have h5e : ¬ s ≤ 122 := by omega
      have h5f : 97 ≤ s := by omega
      have b1 := decide_eq_true h5f
      have b2 := decide_eq_false h5e
      have b3 := decide_eq_true h5c
      have b4 := decide_eq_true h5d
      clear h5 h5c h5d h5e h5f
      go_enter Try.func17, Try.ntmps17
      go_wp2_with (first | (go_at_call 14; refine (rsign_any k hk c hc _).mono ?_; rintro e w1 ⟨rfl, rfl⟩; rw [← HS.out]) | (go_at_call 12; refine (rcode_any k hk _ _).mono ?_; rintro e w1 ⟨rfl, rfl⟩; rw [HN.out]))
      go_ret
      exact ⟨by rw [upper_not HS.out (by rw [H5.out]; rfl)]; rfl, rfl⟩
    · have h5b : (s != 247) = true := by rw [bne_iff_ne]; exact h5
      have H5 := Lib.hid h5
      clear h5
      by_cases h1 : 97 ≤ s <;> by_cases h2 : s ≤ 122 <;> by_cases h3 : 224 ≤ s <;> by_cases h4 : s ≤ 254
      all_goals
        first
        | omega
        | ((first | have b1 := decide_eq_false h1 | have b1 := decide_eq_true h1)
           have H1 := Lib.hid h1
           clear h1
           (first | have b2 := decide_eq_false h2 | have b2 := decide_eq_true h2)
           have H2 := Lib.hid h2
           clear h2
           (first | have b3 := decide_eq_false h3 | have b3 := decide_eq_true h3)
           have H3 := Lib.hid h3
           clear h3
           (first | have b4 := decide_eq_false h4 | have b4 := decide_eq_true h4)
           have H4 := Lib.hid h4
           clear h4
           go_enter Try.func17, Try.ntmps17
           go_wp2_with (first | (go_at_call 14; refine (rsign_any k hk c hc _).mono ?_; rintro e w1 ⟨rfl, rfl⟩; rw [← HS.out]) | (go_at_call 12; refine (rcode_any k hk _ _).mono ?_; rintro e w1 ⟨rfl, rfl⟩; rw [HN.out]))
           go_ret
           have h1 := H1.out
           have h2 := H2.out
           have h3 := H3.out
           have h4 := H4.out
           have h5 := H5.out
           refine ⟨?_, rfl⟩
           first
           | (rw [upper_some HS.out (by (simp [smallB]; omega)) HD.out]; rfl)
           | (rw [upper_not HS.out (by (simp [smallB]; omega))]; rfl))
end Go.Proofs.Ytcibhchbgendaaa.Rf
