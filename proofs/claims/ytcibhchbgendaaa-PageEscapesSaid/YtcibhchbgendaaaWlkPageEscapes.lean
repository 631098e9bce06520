/- The walk of the law PageEscapes. -/
import Derived.Test.YtcibhchbgendaaaWlkPageCodes
import Derived.Test.YtcibhchbgendaaaPgEsc
namespace Go.Proofs.Ytcibhchbgendaaa.L1
open Go Go.RowKit Go.Proofs.Ytcibhchbgendaaa.Pg Go.Proofs.Ytcibhchbgendaaa.Rf

theorem escCode_range {s c : Int} (h : escCode s = some c) : 0 ≤ c ∧ c < 256 := by
  unfold escCode at h
  cases e : escL.find? (fun p => p.2 == s) with
  | none => simp [e] at h
  | some p =>
    simp [e] at h
    have := escL_range p (List.mem_of_find?_eq_some e)
    omega

set_option maxHeartbeats 8000000 in
set_option maxRecDepth 100000 in
theorem pageEscapes_walk (c : Nat) (hc : c < 256) (s : Int) (w : World) :
    Calls Try.prog 7 #[.int .u8 c, .int .i32 s] w fun e w' => e = .returned (.bool true) ∧ Below w.heap.size w w' := by
  have hnot : ∀ (x : Bool) (w : World), (Op.unary .not (.bool x)).run Try.prog w = .ok (.bool (!x)) w := fun _ _ => rfl
  have hw : escNum s = match escCode s with | some c => c | none => -1 := escNum_eq s
  have HW := Lib.hid hw
  clear hw
  obtain ⟨hr1, hr2⟩ := escSign_range c
  cases he : escOf c with
  | none =>
    have h0 : escSign c = 0 := by unfold escSign; rw [he]; rfl
    have HE := Lib.hid he
    have H0 := Lib.hid h0
    clear he h0
    cases hd : escCode s with
    | none =>
      have HD := Lib.hid hd
      have HN := Lib.hid (show escNum s = -1 from by rw [HW.out, hd])
      clear hd
      go_enter Try.func7, Try.ntmps7
      go_wp2_with (first | (go_at_call 9; refine (awake_any _).mono ?_; rintro e w1 ⟨rfl, h1⟩; have HW1 := Lib.hid h1; clear h1) | (go_at_call 18; refine (escape_any c hc _).mono ?_; rintro e w2 ⟨rfl, h1⟩; rw [HE.out, H0.out]; have HW2 := Lib.hid (HW1.out.trans (h1.mono HW1.out.size)); clear h1) | (go_at_call 19; refine (escaped_any s _).mono ?_; rintro e w3 ⟨rfl, h1⟩; rw [HD.out]; have HW3 := Lib.hid (HW2.out.trans (h1.mono HW2.out.size)); clear h1) | (go_at_call 20; refine (rescaped_any s _).mono ?_; rintro e w4 ⟨rfl, rfl⟩; rw [HN.out]) | (go_at_call 21; refine (rescape_any c hc _).mono ?_; rintro e w5 ⟨rfl, rfl⟩; rw [H0.out]))
      go_ret
      exact ⟨rfl, HW3.out⟩
    | some d =>
      have HD := Lib.hid hd
      have HN := Lib.hid (show escNum s = d from by rw [HW.out, hd])
      obtain ⟨hd1, hd2⟩ := escCode_range hd
      clear hd
      go_enter Try.func7, Try.ntmps7
      go_wp2_with (first | (go_at_call 9; refine (awake_any _).mono ?_; rintro e w1 ⟨rfl, h1⟩; have HW1 := Lib.hid h1; clear h1) | (go_at_call 18; refine (escape_any c hc _).mono ?_; rintro e w2 ⟨rfl, h1⟩; rw [HE.out, H0.out]; have HW2 := Lib.hid (HW1.out.trans (h1.mono HW1.out.size)); clear h1) | (go_at_call 19; refine (escaped_any s _).mono ?_; rintro e w3 ⟨rfl, h1⟩; rw [HD.out]; have HW3 := Lib.hid (HW2.out.trans (h1.mono HW2.out.size)); clear h1) | (go_at_call 20; refine (rescaped_any s _).mono ?_; rintro e w4 ⟨rfl, rfl⟩; rw [HN.out]) | (go_at_call 21; refine (rescape_any c hc _).mono ?_; rintro e w5 ⟨rfl, rfl⟩; rw [H0.out]))
      go_ret
      exact ⟨rfl, HW3.out⟩
  | some x =>
    have hx : escSign c = x := by unfold escSign; rw [he]; rfl
    have hb : (x != 0) = true := bne_iff_ne.2 (esc_ne c x he)
    have HE := Lib.hid he
    have H0 := Lib.hid hx
    clear he hx
    cases hd : escCode s with
    | none =>
      have HD := Lib.hid hd
      have HN := Lib.hid (show escNum s = -1 from by rw [HW.out, hd])
      clear hd
      go_enter Try.func7, Try.ntmps7
      go_wp2_with (first | (go_at_call 9; refine (awake_any _).mono ?_; rintro e w1 ⟨rfl, h1⟩; have HW1 := Lib.hid h1; clear h1) | (go_at_call 18; refine (escape_any c hc _).mono ?_; rintro e w2 ⟨rfl, h1⟩; rw [HE.out, H0.out]; have HW2 := Lib.hid (HW1.out.trans (h1.mono HW1.out.size)); clear h1) | (go_at_call 19; refine (escaped_any s _).mono ?_; rintro e w3 ⟨rfl, h1⟩; rw [HD.out]; have HW3 := Lib.hid (HW2.out.trans (h1.mono HW2.out.size)); clear h1) | (go_at_call 20; refine (rescaped_any s _).mono ?_; rintro e w4 ⟨rfl, rfl⟩; rw [HN.out]) | (go_at_call 21; refine (rescape_any c hc _).mono ?_; rintro e w5 ⟨rfl, rfl⟩; rw [H0.out]))
      go_ret
      exact ⟨rfl, HW3.out⟩
    | some d =>
      have HD := Lib.hid hd
      have HN := Lib.hid (show escNum s = d from by rw [HW.out, hd])
      obtain ⟨hd1, hd2⟩ := escCode_range hd
      clear hd
      go_enter Try.func7, Try.ntmps7
      go_wp2_with (first | (go_at_call 9; refine (awake_any _).mono ?_; rintro e w1 ⟨rfl, h1⟩; have HW1 := Lib.hid h1; clear h1) | (go_at_call 18; refine (escape_any c hc _).mono ?_; rintro e w2 ⟨rfl, h1⟩; rw [HE.out, H0.out]; have HW2 := Lib.hid (HW1.out.trans (h1.mono HW1.out.size)); clear h1) | (go_at_call 19; refine (escaped_any s _).mono ?_; rintro e w3 ⟨rfl, h1⟩; rw [HD.out]; have HW3 := Lib.hid (HW2.out.trans (h1.mono HW2.out.size)); clear h1) | (go_at_call 20; refine (rescaped_any s _).mono ?_; rintro e w4 ⟨rfl, rfl⟩; rw [HN.out]) | (go_at_call 21; refine (rescape_any c hc _).mono ?_; rintro e w5 ⟨rfl, rfl⟩; rw [H0.out]))
      go_ret
      exact ⟨rfl, HW3.out⟩

theorem pageEscapes_any (x s : Int) (hx : (Lit.int .u8 x).wf = true) (_hs : (Lit.int .i32 s).wf = true) (w : World) :
    Calls Try.prog 7 #[.int .u8 x, .int .i32 s] w fun e w' => e = .returned (.bool true) ∧ Below w.heap.size w w' := by
  obtain ⟨n, hn, rfl⟩ := byte_nat hx
  exact pageEscapes_walk n hn s w
end Go.Proofs.Ytcibhchbgendaaa.L1
