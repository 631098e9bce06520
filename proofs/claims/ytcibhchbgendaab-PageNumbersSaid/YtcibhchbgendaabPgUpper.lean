/- The walk of (*Page).Upper. -/
import Derived.Test.YtcibhchbgendaabPgSmall
namespace Go.Proofs.Ytcibhchbgendaab.Pg
open Go Go.RowKit Go.Proofs.Ytcibhchbgendaab.Rf

theorem wf32 {s : Int} (h1 : -100000 ≤ s) (h2 : s ≤ 100000) : (Lit.int .i32 s).wf = true := by
  simp only [Lit.wf, show IntKind.i32.min = -2147483648 from rfl, show IntKind.i32.max = 2147483647 from rfl]
  simp only [Bool.and_eq_true, decide_eq_true_eq]
  omega

set_option maxHeartbeats 4000000 in
set_option maxRecDepth 100000 in
theorem pupper_any (b : Nat) (k : Int) (c : Nat) (hc : c < 256) (w : World) (hw : PageAt w b k) :
    Calls Try.prog 50 #[.pointer (some ⟨b, 0, none⟩), .int .u8 c] w fun e w' => e = .returned (.int .u8 (upperOf k c : Nat)) ∧ w.grownBy w' (some b) ∧ PageAt w' b k := by
  obtain ⟨hr1, hr2⟩ := signOf_range k c
  obtain ⟨s, hs⟩ : ∃ s, s = signOf k c := ⟨_, rfl⟩
  rw [← hs] at hr1 hr2
  have HS := Lib.hid hs
  have HW := Lib.hid hw
  have hn : ∀ w : World, (binOp .eql 24 (.pointer (some ⟨b, 0, none⟩)) (.pointer none)).run Try.prog w = .ok (.bool false) w := fun w => by kernel_rfl
  have hnot : ∀ (x : Bool) (w : World), (Op.unary .not (.bool x)).run Try.prog w = .ok (.bool (!x)) w := fun _ _ => rfl
  clear hs hw
  cases hb : smallB s with
  | false =>
    have HU := Lib.hid (upper_not HS.out hb)
    have HB := Lib.hid hb
    clear hb
    go_enter Try.func50, Try.ntmps50
    go_wp2_with (first | (go_at_call 49; refine (sign_any b k c hc _ HW.out).mono ?_; rintro e w1 ⟨rfl, h1, h2⟩; have H1 := Lib.hid h1; have H2 := Lib.hid h2; clear h1 h2; rw [← HS.out]) | (go_at_call 70; refine (small_any _ _).mono ?_; rintro e w2 ⟨rfl, rfl⟩; rw [HB.out]))
    go_ret
    exact ⟨by rw [HU.out]; rfl, H1.out, H2.out⟩
  | true =>
    have HB := Lib.hid hb
    cases hd : codeOf k (s - 32) with
    | none =>
      have HU := Lib.hid (upper_none HS.out hb hd)
      have HD := Lib.hid hd
      clear hb hd
      go_enter Try.func50, Try.ntmps50
      go_wp2_with (first | (go_at_call 49; refine (sign_any b k c hc _ HW.out).mono ?_; rintro e w1 ⟨rfl, h1, h2⟩; have H1 := Lib.hid h1; have H2 := Lib.hid h2; clear h1 h2; rw [← HS.out]) | (go_at_call 70; refine (small_any _ _).mono ?_; rintro e w2 ⟨rfl, rfl⟩; rw [HB.out]) | (go_at_call 44; refine (code_any b k _ (wf32 (by omega) (by omega)) _ H2.out).mono ?_; rintro e w3 ⟨rfl, h1, h2⟩; have H3 := Lib.hid h1; have H4 := Lib.hid h2; clear h1 h2; rw [HD.out]))
      go_ret
      exact ⟨by rw [HU.out]; rfl, gb_trans H1.out H3.out, H4.out⟩
    | some d =>
      have HU := Lib.hid (upper_some HS.out hb hd)
      have HD := Lib.hid hd
      clear hb hd
      go_enter Try.func50, Try.ntmps50
      go_wp2_with (first | (go_at_call 49; refine (sign_any b k c hc _ HW.out).mono ?_; rintro e w1 ⟨rfl, h1, h2⟩; have H1 := Lib.hid h1; have H2 := Lib.hid h2; clear h1 h2; rw [← HS.out]) | (go_at_call 70; refine (small_any _ _).mono ?_; rintro e w2 ⟨rfl, rfl⟩; rw [HB.out]) | (go_at_call 44; refine (code_any b k _ (wf32 (by omega) (by omega)) _ H2.out).mono ?_; rintro e w3 ⟨rfl, h1, h2⟩; have H3 := Lib.hid h1; have H4 := Lib.hid h2; clear h1 h2; rw [HD.out]))
      go_ret
      exact ⟨by rw [HU.out]; rfl, gb_trans H1.out H3.out, H4.out⟩
end Go.Proofs.Ytcibhchbgendaab.Pg
