/- The walks of package class over a page. -/
import Derived.Test.YtcibhchbgendaaaDoorClSign
namespace Go.Proofs.YtcibhchbgendaaaDoor.Cl
open Go Go.RowKit Go.Proofs.YtcibhchbgendaaaDoor.Pg

set_option maxHeartbeats 4000000 in
set_option maxRecDepth 100000 in
theorem signed_any (s : Int) (w : World) : Calls Tryd.prog 52 #[.int .i32 s] w fun e w' => e = .returned (.int .i64 (signedOf s)) ∧ w' = w := by
  have hr : s < 48 ∨ (48 ≤ s ∧ s < 58) ∨ (58 ≤ s ∧ s < 65) ∨ (65 ≤ s ∧ s < 91) ∨ (91 ≤ s ∧ s < 97) ∨ (97 ≤ s ∧ s < 123) ∨ (123 ≤ s ∧ s < 192) ∨ (192 ≤ s ∧ s < 215) ∨ s = 215 ∨ (216 ≤ s ∧ s < 247) ∨ s = 247 ∨ (248 ≤ s ∧ s < 256) ∨ 256 ≤ s := by omega
  rcases hr with h | h | h | h | h | h | h | h | h | h | h | h | h
  all_goals
    have HR := Lib.hid h
    first | have f0 := decide_eq_true (show 48 ≤ s from by omega) | have f0 := decide_eq_false (show ¬ 48 ≤ s from by omega)
    first | have f1 := decide_eq_true (show s ≤ 57 from by omega) | have f1 := decide_eq_false (show ¬ s ≤ 57 from by omega)
    first | have f2 := decide_eq_true (show 97 ≤ s from by omega) | have f2 := decide_eq_false (show ¬ 97 ≤ s from by omega)
    first | have f3 := decide_eq_true (show s ≤ 122 from by omega) | have f3 := decide_eq_false (show ¬ s ≤ 122 from by omega)
    first | have f4 := decide_eq_true (show 65 ≤ s from by omega) | have f4 := decide_eq_false (show ¬ 65 ≤ s from by omega)
    first | have f5 := decide_eq_true (show s ≤ 90 from by omega) | have f5 := decide_eq_false (show ¬ s ≤ 90 from by omega)
    first | have f6 := decide_eq_true (show 192 ≤ s from by omega) | have f6 := decide_eq_false (show ¬ 192 ≤ s from by omega)
    first | have f7 := decide_eq_true (show s ≤ 255 from by omega) | have f7 := decide_eq_false (show ¬ s ≤ 255 from by omega)
    first | have f8 := bne_iff_ne.2 (show s ≠ 215 from by omega) | have f8 := bne_eq_false_iff_eq.2 (show s = 215 from by omega)
    first | have f9 := bne_iff_ne.2 (show s ≠ 247 from by omega) | have f9 := bne_eq_false_iff_eq.2 (show s = 247 from by omega)
    clear h
    go_enter Tryd.func52, Tryd.ntmps52
    go_wp2
    go_ret
    have h := HR.out
    refine ⟨?_, rfl⟩
    first
    | (have e : signedOf s = 5 := by (unfold signedOf; rw [if_pos (by omega)])
       rw [e]; rfl)
    | (have e : signedOf s = 6 := by (unfold signedOf; rw [if_neg (by omega)]; first | rw [if_pos (by omega)] | (rw [if_neg (by omega), if_pos (by omega)]))
       rw [e]; rfl)
    | (have e : signedOf s = 7 := by (unfold signedOf; rw [if_neg (by omega), if_neg (by omega), if_neg (by omega)])
       rw [e]; rfl)

set_option maxHeartbeats 4000000 in
set_option maxRecDepth 100000 in
theorem cof_any (B : Nat) (v : Value) (k : Int) (c : Nat) (hc : c < 256) (w : World) (hB : B ≤ w.heap.size) (hp : PgV B w v k) :
    Calls Tryd.prog 35 #[v, .int .u8 c] w fun e w' => e = .returned (.int .i64 (classOf k c)) ∧ PgV B w' v k ∧ PgStep w w' ∧ Below B w w' := by
  have hr : (c = 0 ∨ c = 12 ∨ c = 13 ∨ c = 21 ∨ c = 25 ∨ c = 28 ∨ c = 30 ∨ c = 63 ∨ c = 64 ∨ c = 255 ∨ (c < 64 ∧ c ≠ 0 ∧ c ≠ 12 ∧ c ≠ 13 ∧ c ≠ 21 ∧ c ≠ 25 ∧ c ≠ 28 ∧ c ≠ 30 ∧ c ≠ 63)) ∨ (64 < c ∧ c ≠ 255) := by omega
  rcases hr with hr | hr
  · have hcl : ∃ x : Int, classOf k c = x ∧ ((c = 0 ∧ x = 0) ∨ ((c = 12 ∨ c = 13 ∨ c = 21 ∨ c = 25 ∨ c = 28 ∨ c = 30 ∨ c = 63) ∧ x = 1) ∨ (c = 64 ∧ x = 4) ∨ (c = 255 ∧ x = 2) ∨ ((c < 64 ∧ c ≠ 0 ∧ c ≠ 12 ∧ c ≠ 13 ∧ c ≠ 21 ∧ c ≠ 25 ∧ c ≠ 28 ∧ c ≠ 30 ∧ c ≠ 63) ∧ x = 3)) := by
      refine ⟨_, rfl, ?_⟩
      unfold classOf
      (repeat' split) <;> omega
    obtain ⟨x, hx, hxc⟩ := hcl
    have HX := Lib.hid hx
    have HXC := Lib.hid hxc
    clear hx hxc
    rcases hr with h | h | h | h | h | h | h | h | h | h | h
    all_goals
      have HR := Lib.hid h
      first | have f0 := beq_iff_eq.2 (show (c : Int) = 0 from by omega) | have f0 := beq_eq_false_iff_ne.2 (show ¬ (c : Int) = 0 from by omega)
      first | have f1 := beq_iff_eq.2 (show (c : Int) = 12 from by omega) | have f1 := beq_eq_false_iff_ne.2 (show ¬ (c : Int) = 12 from by omega)
      first | have f2 := beq_iff_eq.2 (show (c : Int) = 13 from by omega) | have f2 := beq_eq_false_iff_ne.2 (show ¬ (c : Int) = 13 from by omega)
      first | have f3 := beq_iff_eq.2 (show (c : Int) = 21 from by omega) | have f3 := beq_eq_false_iff_ne.2 (show ¬ (c : Int) = 21 from by omega)
      first | have f4 := beq_iff_eq.2 (show (c : Int) = 25 from by omega) | have f4 := beq_eq_false_iff_ne.2 (show ¬ (c : Int) = 25 from by omega)
      first | have f5 := beq_iff_eq.2 (show (c : Int) = 28 from by omega) | have f5 := beq_eq_false_iff_ne.2 (show ¬ (c : Int) = 28 from by omega)
      first | have f6 := beq_iff_eq.2 (show (c : Int) = 30 from by omega) | have f6 := beq_eq_false_iff_ne.2 (show ¬ (c : Int) = 30 from by omega)
      first | have f7 := beq_iff_eq.2 (show (c : Int) = 63 from by omega) | have f7 := beq_eq_false_iff_ne.2 (show ¬ (c : Int) = 63 from by omega)
      first | have f8 := beq_iff_eq.2 (show (c : Int) = 64 from by omega) | have f8 := beq_eq_false_iff_ne.2 (show ¬ (c : Int) = 64 from by omega)
      first | have f9 := beq_iff_eq.2 (show (c : Int) = 255 from by omega) | have f9 := beq_eq_false_iff_ne.2 (show ¬ (c : Int) = 255 from by omega)
      first | have f10 := decide_eq_true (show (c : Int) < 64 from by omega) | have f10 := decide_eq_false (show ¬ (c : Int) < 64 from by omega)
      have HP := Lib.hid hp
      clear h hp hc
      go_enter Tryd.func35, Tryd.ntmps35
      go_wp2_with fail
      go_ret
      have h := HR.out
      have h2 := HXC.out
      refine ⟨?_, HP.out, PgStep.refl _, Below.refl _ _⟩
      rw [HX.out]
      first
      | (obtain rfl : x = 0 := by omega
         rfl)
      | (obtain rfl : x = 1 := by omega
         rfl)
      | (obtain rfl : x = 2 := by omega
         rfl)
      | (obtain rfl : x = 3 := by omega
         rfl)
      | (obtain rfl : x = 4 := by omega
         rfl)
  · have HR := Lib.hid hr
    first | have f0 := beq_iff_eq.2 (show (c : Int) = 0 from by omega) | have f0 := beq_eq_false_iff_ne.2 (show ¬ (c : Int) = 0 from by omega)
    first | have f1 := beq_iff_eq.2 (show (c : Int) = 12 from by omega) | have f1 := beq_eq_false_iff_ne.2 (show ¬ (c : Int) = 12 from by omega)
    first | have f2 := beq_iff_eq.2 (show (c : Int) = 13 from by omega) | have f2 := beq_eq_false_iff_ne.2 (show ¬ (c : Int) = 13 from by omega)
    first | have f3 := beq_iff_eq.2 (show (c : Int) = 21 from by omega) | have f3 := beq_eq_false_iff_ne.2 (show ¬ (c : Int) = 21 from by omega)
    first | have f4 := beq_iff_eq.2 (show (c : Int) = 25 from by omega) | have f4 := beq_eq_false_iff_ne.2 (show ¬ (c : Int) = 25 from by omega)
    first | have f5 := beq_iff_eq.2 (show (c : Int) = 28 from by omega) | have f5 := beq_eq_false_iff_ne.2 (show ¬ (c : Int) = 28 from by omega)
    first | have f6 := beq_iff_eq.2 (show (c : Int) = 30 from by omega) | have f6 := beq_eq_false_iff_ne.2 (show ¬ (c : Int) = 30 from by omega)
    first | have f7 := beq_iff_eq.2 (show (c : Int) = 63 from by omega) | have f7 := beq_eq_false_iff_ne.2 (show ¬ (c : Int) = 63 from by omega)
    first | have f8 := beq_iff_eq.2 (show (c : Int) = 64 from by omega) | have f8 := beq_eq_false_iff_ne.2 (show ¬ (c : Int) = 64 from by omega)
    first | have f9 := beq_iff_eq.2 (show (c : Int) = 255 from by omega) | have f9 := beq_eq_false_iff_ne.2 (show ¬ (c : Int) = 255 from by omega)
    first | have f10 := decide_eq_true (show (c : Int) < 64 from by omega) | have f10 := decide_eq_false (show ¬ (c : Int) < 64 from by omega)
    clear hr
    go_enter Tryd.func35, Tryd.ntmps35
    go_wp2_with (first | (go_at_call 53; refine (csign_any B v k c hc _ hB hp).mono ?_; rintro e w1 ⟨rfl, h1, h2, h3⟩; have H1 := Lib.hid h1; have H2 := Lib.hid h2; have H3 := Lib.hid h3; clear h1 h2 h3) | (go_at_call 52; refine (signed_any _ _).mono ?_; rintro e w2 ⟨rfl, rfl⟩))
    go_ret
    have h := HR.out
    have e : classOf k c = signedOf (signOf k c) := by
      unfold classOf
      rw [if_neg (by omega), if_neg (by omega), if_neg (by omega), if_neg (by omega), if_neg (by omega)]
    exact ⟨by rw [e]; rfl, H1.out, H2.out, H3.out⟩

set_option maxHeartbeats 4000000 in
set_option maxRecDepth 100000 in
theorem numeric_any (B : Nat) (v : Value) (k : Int) (c : Nat) (hc : c < 256) (w : World) (hB : B ≤ w.heap.size) (hp : PgV B w v k) :
    Calls Tryd.prog 50 #[v, .int .u8 c] w fun e w' => e = .returned (.bool (numericB k c)) ∧ PgV B w' v k ∧ PgStep w w' ∧ Below B w w' := by
  by_cases h28 : c = 28
  · have HN := Lib.hid (show numericB k c = true from by unfold numericB; rw [h28]; rfl)
    have f0 := beq_iff_eq.2 (show (c : Int) = 28 from by omega)
    have HP := Lib.hid hp
    clear h28 hp
    go_enter Tryd.func50, Tryd.ntmps50
    go_wp2_with fail
    go_ret
    exact ⟨by rw [HN.out]; rfl, HP.out, PgStep.refl _, Below.refl _ _⟩
  · have f28 := beq_eq_false_iff_ne.2 (show ¬ (c : Int) = 28 from by omega)
    have HN := Lib.hid (show numericB k c = (dataB c && numS (signOf k c)) from by
      unfold numericB
      have : (c == 28) = false := beq_eq_false_iff_ne.2 h28
      rw [this]; rfl)
    obtain ⟨s, hs⟩ : ∃ s, s = signOf k c := ⟨_, rfl⟩
    have HS := Lib.hid hs
    clear h28 hs
    cases hd : dataB c
    all_goals
      have HD := Lib.hid hd
      clear hd
      have hr : s < 45 ∨ s = 45 ∨ s = 46 ∨ s = 47 ∨ (48 ≤ s ∧ s < 58) ∨ 58 ≤ s := by omega
      rcases hr with h | h | h | h | h | h
      all_goals
        have HR := Lib.hid h
        first | have f0 := decide_eq_true (show 48 ≤ s from by omega) | have f0 := decide_eq_false (show ¬ 48 ≤ s from by omega)
        first | have f1 := decide_eq_true (show s ≤ 57 from by omega) | have f1 := decide_eq_false (show ¬ s ≤ 57 from by omega)
        first | have f2 := beq_iff_eq.2 (show s = 46 from by omega) | have f2 := beq_eq_false_iff_ne.2 (show ¬ s = 46 from by omega)
        first | have f3 := beq_iff_eq.2 (show s = 45 from by omega) | have f3 := beq_eq_false_iff_ne.2 (show ¬ s = 45 from by omega)
        clear h
        go_enter Tryd.func50, Tryd.ntmps50
        go_wp2_with (first | (go_at_call 53; refine (csign_any B v k c hc _ hB hp).mono ?_; rintro e w1 ⟨rfl, h1, h2, h3⟩; have H1 := Lib.hid h1; have H2 := Lib.hid h2; have H3 := Lib.hid h3; clear h1 h2 h3; rw [← HS.out]) | (go_at_call 64; refine (data_any c hc _).mono ?_; rintro e w2 ⟨rfl, rfl⟩; rw [HD.out]))
        go_ret
        have h := HR.out
        refine ⟨?_, H1.out, H2.out, H3.out⟩
        rw [HN.out, HD.out, ← HS.out]
        first
        | (have e : numS s = true := by (simp [numS]; omega)
           rw [e]; rfl)
        | (have e : numS s = false := by (simp [numS]; omega)
           rw [e]; rfl)

set_option maxHeartbeats 4000000 in
set_option maxRecDepth 100000 in
theorem shown_any (B : Nat) (v : Value) (k : Int) (c : Nat) (hc : c < 256) (w : World) (hB : B ≤ w.heap.size) (hp : PgV B w v k) :
    Calls Tryd.prog 51 #[v, .int .u8 c] w fun e w' => e = .returned (.int .i32 (shownOf k c)) ∧ PgV B w' v k ∧ PgStep w w' ∧ Below B w w' := by
  by_cases hq : c = 28 ∨ c = 30 ∨ c = 63
  · have hcl : ∃ x : Int, shownOf k c = x ∧ ((c = 28 ∧ x = 42) ∨ (c = 30 ∧ x = 59) ∨ (c = 63 ∧ x = 191)) := by
      refine ⟨_, rfl, ?_⟩
      unfold shownOf
      rcases hq with rfl | rfl | rfl <;> simp
    obtain ⟨x, hx, hxc⟩ := hcl
    have HX := Lib.hid hx
    have HXC := Lib.hid hxc
    clear hx hxc
    rcases hq with h | h | h
    all_goals
      have HR := Lib.hid h
      first | have f0 := beq_iff_eq.2 (show (c : Int) = 28 from by omega) | have f0 := beq_eq_false_iff_ne.2 (show ¬ (c : Int) = 28 from by omega)
      first | have f1 := beq_iff_eq.2 (show (c : Int) = 30 from by omega) | have f1 := beq_eq_false_iff_ne.2 (show ¬ (c : Int) = 30 from by omega)
      first | have f2 := beq_iff_eq.2 (show (c : Int) = 63 from by omega) | have f2 := beq_eq_false_iff_ne.2 (show ¬ (c : Int) = 63 from by omega)
      have HP := Lib.hid hp
      clear h hp hc
      go_enter Tryd.func51, Tryd.ntmps51
      go_wp2_with fail
      go_ret
      have h := HR.out
      have h2 := HXC.out
      refine ⟨?_, HP.out, PgStep.refl _, Below.refl _ _⟩
      rw [HX.out]
      first
      | (obtain rfl : x = 42 := by omega
         rfl)
      | (obtain rfl : x = 59 := by omega
         rfl)
      | (obtain rfl : x = 191 := by omega
         rfl)
  · have HQ := Lib.hid hq
    first | have f0 := beq_iff_eq.2 (show (c : Int) = 28 from by omega) | have f0 := beq_eq_false_iff_ne.2 (show ¬ (c : Int) = 28 from by omega)
    first | have f1 := beq_iff_eq.2 (show (c : Int) = 30 from by omega) | have f1 := beq_eq_false_iff_ne.2 (show ¬ (c : Int) = 30 from by omega)
    first | have f2 := beq_iff_eq.2 (show (c : Int) = 63 from by omega) | have f2 := beq_eq_false_iff_ne.2 (show ¬ (c : Int) = 63 from by omega)
    clear hq
    cases hd : dataB c with
    | false =>
      have HD := Lib.hid hd
      have HP := Lib.hid hp
      clear hd hp
      go_enter Tryd.func51, Tryd.ntmps51
      go_wp2_with (first | (go_at_call 64; refine (data_any c hc _).mono ?_; rintro e w2 ⟨rfl, rfl⟩; rw [HD.out]))
      go_ret
      have hq := HQ.out
      have e : shownOf k c = 32 := by
        unfold shownOf
        rw [if_neg (by omega), if_neg (by omega), if_neg (by omega), if_pos HD.out]
      exact ⟨by rw [e]; rfl, HP.out, PgStep.refl _, Below.refl _ _⟩
    | true =>
      have HD := Lib.hid hd
      obtain ⟨s, hs⟩ : ∃ s, s = signOf k c := ⟨_, rfl⟩
      have HS := Lib.hid hs
      clear hd hs
      cases hh : hiddenB s
      all_goals
        have HH := Lib.hid hh
        clear hh
        go_enter Tryd.func51, Tryd.ntmps51
        go_wp2_with (first | (go_at_call 53; refine (csign_any B v k c hc _ hB hp).mono ?_; rintro e w1 ⟨rfl, h1, h2, h3⟩; have H1 := Lib.hid h1; have H2 := Lib.hid h2; have H3 := Lib.hid h3; clear h1 h2 h3; rw [← HS.out]) | (go_at_call 64; refine (data_any c hc _).mono ?_; rintro e w2 ⟨rfl, rfl⟩; rw [HD.out]) | (go_at_call 65; refine (hidden_any s _).mono ?_; rintro e w3 ⟨rfl, rfl⟩; rw [HH.out]))
        go_ret
        have hq := HQ.out
        have hdd := HD.out
        have e : shownOf k c = if hiddenB s = true then 32 else s := by
          unfold shownOf
          rw [if_neg (by omega), if_neg (by omega), if_neg (by omega), if_neg (by rw [hdd]; simp), ← HS.out]
        refine ⟨?_, H1.out, H2.out, H3.out⟩
        rw [e, HH.out]
        rfl
end Go.Proofs.YtcibhchbgendaaaDoor.Cl
