/- The walk of the law ClassOf. -/
import Derived.Test.YtcibhchbgendaaaDoorLaw02
import Derived.Test.YtcibhchbgendaaaDoorRf02
import Derived.Test.YtcibhchbgendaaaDoorClName
namespace Go.Proofs.YtcibhchbgendaaaDoor.L2
open Go Go.RowKit Go.Proofs.YtcibhchbgendaaaDoor.Pg Go.Proofs.YtcibhchbgendaaaDoor.Cl Go.Proofs.YtcibhchbgendaaaDoor.R2

/-- a byte that came in, as a natural number -/
theorem byte_nat' {x : Int} (h : (Lit.int .u8 x).wf = true) : ∃ n : Nat, n < 256 ∧ x = n := by
  simp only [Lit.wf, show IntKind.u8.min = 0 from rfl, show IntKind.u8.max = 255 from rfl] at h
  simp only [Bool.and_eq_true, decide_eq_true_eq] at h
  exact ⟨x.toNat, by omega, by omega⟩

theorem PgV.lower {B C : Nat} {w : World} {v : Value} {k : Int} (h : PgV C w v k) (hB : B ≤ C) : PgV B w v k := by
  rcases h with h | ⟨b, h1, h2, h3⟩
  · exact .inl h
  · exact .inr ⟨b, h1, Nat.le_trans hB h2, h3⟩

set_option maxHeartbeats 4000000 in
set_option maxRecDepth 100000 in
theorem classOf_walk (n : Nat) (hn : n < 256) (c : Int) (w : World) (hN : Names w) (hlt : 1 < w.heap.size) :
    Calls Tryd.prog 8 #[.int .u8 n, .int .i64 c] w fun e w' => e = .returned (.bool true) ∧ Below w.heap.size w w' := by
  have hnot : ∀ (x : Bool) (w : World), (Op.unary .not (.bool x)).run Tryd.prog w = .ok (.bool (!x)) w := fun _ _ => rfl
  have HN := Lib.hid hN
  clear hN
  go_enter Tryd.func8, Tryd.ntmps8
  go_wp2_with fail
  refine (awake_any _).mono ?_
  rintro e w1 ⟨rfl, h1⟩
  have HW1 := Lib.hid h1
  clear h1
  go_wp2_with fail
  refine (pick_any n hn _).mono ?_
  rintro e w2 ⟨v, k, rfl, hp, hw⟩
  have HP := Lib.hid (PgV.lower hp HW1.out.size)
  have HK := Lib.hid hp.num
  have HW2 := Lib.hid (HW1.out.trans (hw.mono HW1.out.size))
  clear hp hw
  go_wp2_with fail
  go_loopw [15] (fun i wr => ∃ j : Nat, j ≤ 256 ∧ i = .int .i64 j ∧ PgV w.heap.size wr v k ∧ Below w.heap.size w wr) (fun i _ => 256 - (intOf i).toNat)
  case atStart => exact ⟨0, by omega, rfl, HP.out, HW2.out⟩
  case round =>
    obtain ⟨j, hj1, rfl, hp1, hw⟩ := hrel
    have Q1 := Lib.hid hp1
    have QW := Lib.hid hw
    clear hp1 hw
    by_cases hlt2 : j < 256
    · go_wp2_with fail
      refine (cof_any w.heap.size v k j hlt2 _ QW.out.size Q1.out).mono ?_
      rintro e w3 ⟨rfl, h1, h2, h3⟩
      have R1 := Lib.hid h1
      have RW := Lib.hid (QW.out.trans h3)
      clear h1 h2 h3
      go_wp2_with fail
      refine (rof_any k HK.out j hlt2 _).mono ?_
      rintro e w4 ⟨rfl, h1⟩
      have S1 := Lib.hid (R1.out.below h1)
      have SW := Lib.hid (RW.out.trans (h1.mono RW.out.size))
      clear h1
      go_wp2_with fail
      go_roundw
      case rel => exact ⟨j + 1, by omega, by go_num, S1.out, SW.out⟩
      case measure => simp [intOf]; omega
    · go_wp2_with fail
      refine (cname_any c _ (HN.out.below QW.out hlt)).mono ?_
      rintro e w5 ⟨rfl, rfl⟩
      go_wp2_with fail
      refine (rname_any c _).mono ?_
      rintro e w6 ⟨rfl, h1⟩
      have SW := Lib.hid (QW.out.trans (h1.mono QW.out.size))
      clear h1
      go_wp2_with fail
      go_ret
      exact ⟨rfl, SW.out⟩

theorem classOf_any (x c : Int) (w : World) (hx : (Lit.int .u8 x).wf = true) (_hc : (Lit.int .i64 c).wf = true) (hN : Names w) :
    Calls Tryd.prog 8 #[.int .u8 x, .int .i64 c] w fun e w' => e = .returned (.bool true) ∧ Below w.heap.size w w' := by
  obtain ⟨n, hn, rfl⟩ := byte_nat' hx
  refine classOf_walk n hn c w hN ?_
  have h := hN 0 nm0 rfl
  rcases Nat.lt_or_ge 1 w.heap.size with hlt | hge
  · exact hlt
  · unfold World.cell? at h
    rw [Array.getElem?_eq_none hge] at h
    simp at h
end Go.Proofs.YtcibhchbgendaaaDoor.L2
