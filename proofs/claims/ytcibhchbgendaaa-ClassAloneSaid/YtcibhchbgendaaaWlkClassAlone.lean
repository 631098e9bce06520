/- The walk of the law ClassAlone. -/
import Derived.Test.YtcibhchbgendaaaLaw02
namespace Go.Proofs.Ytcibhchbgendaaa.L2
open Go Go.RowKit Go.Proofs.Ytcibhchbgendaaa.Pg Go.Proofs.Ytcibhchbgendaaa.Cl

/-- a byte that came in, as a natural number -/
theorem byte_nat {x : Int} (h : (Lit.int .u8 x).wf = true) : ∃ n : Nat, n < 256 ∧ x = n := by
  simp only [Lit.wf, show IntKind.u8.min = 0 from rfl, show IntKind.u8.max = 255 from rfl] at h
  simp only [Bool.and_eq_true, decide_eq_true_eq] at h
  exact ⟨x.toNat, by omega, by omega⟩

set_option maxHeartbeats 4000000 in
set_option maxRecDepth 100000 in
theorem classAlone_walk (n c : Nat) (hn : n < 256) (hc : c < 256) (w : World) :
    Calls Try.prog 8 #[.int .u8 n, .int .u8 c] w fun e w' => e = .returned (.bool true) ∧ Below w.heap.size w w' := by
  have hnot : ∀ (x : Bool) (w : World), (Op.unary .not (.bool x)).run Try.prog w = .ok (.bool (!x)) w := fun _ _ => rfl
  go_enter Try.func8, Try.ntmps8
  go_wp2_with fail
  refine (awake_any _).mono ?_
  rintro e w1 ⟨rfl, h1⟩
  have HW1 := Lib.hid h1
  clear h1
  go_wp2_with fail
  refine (pick_any n hn _).mono ?_
  rintro e w2 ⟨v, k, rfl, hp, hw⟩
  have HP := Lib.hid (show PgV w.heap.size w2 v k from by
    rcases hp with h | ⟨b, h1, h2, h3⟩
    · exact .inl h
    · exact .inr ⟨b, h1, Nat.le_trans HW1.out.size h2, h3⟩)
  have HW2 := Lib.hid (HW1.out.trans (hw.mono HW1.out.size))
  clear hp hw
  go_wp2_with fail
  refine (shown_any w.heap.size _ k c hc _ HW2.out.size HP.out).mono ?_
  rintro e w3 ⟨rfl, h1, h2, h3⟩
  have HP3 := Lib.hid h1
  have HW3 := Lib.hid (HW2.out.trans h3)
  clear h1 h2 h3
  have HS := Lib.hid (shown_seen k c)
  have HN := Lib.hid (numeric_data k c)
  generalize shownOf k c = s at *
  have hr : (32 ≤ s ∧ s < 127) ∨ 159 < s := by have := HS.out; omega
  rcases hr with h | h
  all_goals
    have HR := Lib.hid h
    first | have f0 := decide_eq_true (show s < 32 from by omega) | have f0 := decide_eq_false (show ¬ s < 32 from by omega)
    first | have f1 := decide_eq_true (show 127 ≤ s from by omega) | have f1 := decide_eq_false (show ¬ 127 ≤ s from by omega)
    first | have f2 := decide_eq_true (show s ≤ 159 from by omega) | have f2 := decide_eq_false (show ¬ s ≤ 159 from by omega)
    clear h
    go_wp2_with fail
    refine (numeric_any w.heap.size _ k c hc _ HW3.out.size HP3.out).mono ?_
    rintro e w4 ⟨rfl, h1, h2, h3⟩
    have HW4 := Lib.hid (HW3.out.trans h3)
    clear h1 h2 h3
    cases hnb : numericB k c with
    | false =>
      go_wp2_with fail
      go_ret
      exact ⟨rfl, HW4.out⟩
    | true =>
      have hd := HN.out hnb
      have HD := Lib.hid hd
      clear hd hnb
      cases hdb : dataB c with
      | true =>
        have HDB := Lib.hid hdb
        clear hdb
        go_wp2_with fail
        refine (data_any c hc _).mono ?_
        rintro e w5 ⟨rfl, rfl⟩
        rw [HDB.out]
        go_wp2_with fail
        go_ret
        exact ⟨rfl, HW4.out⟩
      | false =>
        have HDB := Lib.hid hdb
        have f28 := beq_iff_eq.2 (show (c : Int) = 28 from by have := HD.out; simp [hdb] at this; omega)
        clear hdb
        go_wp2_with fail
        refine (data_any c hc _).mono ?_
        rintro e w5 ⟨rfl, rfl⟩
        rw [HDB.out]
        go_wp2_with fail
        go_ret
        exact ⟨by simp, HW4.out⟩

theorem classAlone_any (x y : Int) (hx : (Lit.int .u8 x).wf = true) (hy : (Lit.int .u8 y).wf = true) (w : World) :
    Calls Try.prog 8 #[.int .u8 x, .int .u8 y] w fun e w' => e = .returned (.bool true) ∧ Below w.heap.size w w' := by
  obtain ⟨n, hn, rfl⟩ := byte_nat hx
  obtain ⟨m, hm, rfl⟩ := byte_nat hy
  exact classAlone_walk n m hn hm w
end Go.Proofs.Ytcibhchbgendaaa.L2
