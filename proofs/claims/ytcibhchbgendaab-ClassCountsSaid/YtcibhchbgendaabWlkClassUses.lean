/- The walk of the law ClassUses. -/
import Derived.Test.YtcibhchbgendaabLaw02
import Derived.Test.YtcibhchbgendaabRf02
namespace Go.Proofs.Ytcibhchbgendaab.L2
open Go Go.RowKit Go.Proofs.Ytcibhchbgendaab.Pg Go.Proofs.Ytcibhchbgendaab.Cl Go.Proofs.Ytcibhchbgendaab.R2

/-- a byte that came in, as a natural number -/
theorem byte_nat' {x : Int} (h : (Lit.int .u8 x).wf = true) : ∃ n : Nat, n < 256 ∧ x = n := by
  simp only [Lit.wf, show IntKind.u8.min = 0 from rfl, show IntKind.u8.max = 255 from rfl] at h
  simp only [Bool.and_eq_true, decide_eq_true_eq] at h
  exact ⟨x.toNat, by omega, by omega⟩

/-- a page that was picked, in the world of the law -/
theorem PgV.lower {B C : Nat} {w : World} {v : Value} {k : Int} (h : PgV C w v k) (hB : B ≤ C) : PgV B w v k := by
  rcases h with h | ⟨b, h1, h2, h3⟩
  · exact .inl h
  · exact .inr ⟨b, h1, Nat.le_trans hB h2, h3⟩

set_option maxHeartbeats 4000000 in
set_option maxRecDepth 100000 in
theorem classUses_walk (n : Nat) (hn : n < 256) (w : World) :
    Calls Try.prog 4 #[.int .u8 n] w fun e w' => e = .returned (.bool true) ∧ Below w.heap.size w w' := by
  have hnot : ∀ (x : Bool) (w : World), (Op.unary .not (.bool x)).run Try.prog w = .ok (.bool (!x)) w := fun _ _ => rfl
  go_enter Try.func4, Try.ntmps4
  go_wp2_with fail
  refine (awake_any _).mono ?_
  rintro e w1 ⟨rfl, h1⟩
  have HW1 := Lib.hid h1
  clear h1
  go_wp2_with fail
  refine (pick_any n hn _).mono ?_
  rintro e w2 ⟨v, k, rfl, hp, hw⟩
  have HP := Lib.hid (PgV.lower hp HW1.out.size)
  have HK := Lib.hid hp.num
  have HW2 := Lib.hid (HW1.out.trans (hw.mono HW1.out.size))
  clear hp hw
  go_wp2_with fail
  go_loopw [14] (fun i wr => ∃ j : Nat, j ≤ 256 ∧ i = .int .i64 j ∧ PgV w.heap.size wr v k ∧ Below w.heap.size w wr) (fun i _ => 256 - (intOf i).toNat)
  case atStart => exact ⟨0, by omega, rfl, HP.out, HW2.out⟩
  case round =>
    obtain ⟨j, hj1, rfl, hp1, hw⟩ := hrel
    have Q1 := Lib.hid hp1
    have QW := Lib.hid hw
    clear hp1 hw
    by_cases hlt : j < 256
    · go_wp2_with fail
      refine (data_any j hlt _).mono ?_
      rintro e w3 ⟨rfl, rfl⟩
      go_wp2_with fail
      refine (rdata_any j hlt _).mono ?_
      rintro e w4 ⟨rfl, rfl⟩
      go_wp2_with fail
      refine (numeric_any w.heap.size v k j hlt _ QW.out.size Q1.out).mono ?_
      rintro e w5 ⟨rfl, h1, h2, h3⟩
      have R1 := Lib.hid h1
      have RW := Lib.hid (QW.out.trans h3)
      clear h1 h2 h3
      go_wp2_with fail
      refine (rnumeric_any k HK.out j hlt _).mono ?_
      rintro e w6 ⟨rfl, rfl⟩
      go_wp2_with fail
      refine (shown_any w.heap.size v k j hlt _ RW.out.size R1.out).mono ?_
      rintro e w7 ⟨rfl, h1, h2, h3⟩
      have S1 := Lib.hid h1
      have SW := Lib.hid (RW.out.trans h3)
      clear h1 h2 h3
      go_wp2_with fail
      refine (rshown_any k HK.out j hlt _).mono ?_
      rintro e w8 ⟨rfl, rfl⟩
      go_wp2_with fail
      refine (design_any w.heap.size v k j hlt _ SW.out.size S1.out).mono ?_
      rintro e w9 ⟨rfl, h1, h2, h3⟩
      have T1 := Lib.hid h1
      have TW := Lib.hid (SW.out.trans h3)
      clear h1 h2 h3
      go_wp2_with fail
      refine (rdesign_any k HK.out j hlt _).mono ?_
      rintro e w10 ⟨rfl, rfl⟩
      go_wp2_with fail
      go_roundw
      case rel => exact ⟨j + 1, by omega, by go_num, T1.out, TW.out⟩
      case measure => simp [intOf]; omega
    · go_wp2_with fail
      go_ret
      exact ⟨rfl, QW.out⟩

theorem classUses_any (x : Int) (hx : (Lit.int .u8 x).wf = true) (w : World) :
    Calls Try.prog 4 #[.int .u8 x] w fun e w' => e = .returned (.bool true) ∧ Below w.heap.size w w' := by
  obtain ⟨n, hn, rfl⟩ := byte_nat' hx
  exact classUses_walk n hn w
end Go.Proofs.Ytcibhchbgendaab.L2
