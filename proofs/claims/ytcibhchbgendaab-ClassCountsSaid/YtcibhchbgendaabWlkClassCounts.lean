/- The walk of the law ClassCounts. -/
import Derived.Test.YtcibhchbgendaabLaw02
import Derived.Test.YtcibhchbgendaabRf02
import Derived.Test.YtcibhchbgendaabClCount
import Derived.Test.YtcibhchbgendaabWlkClassUses
import Derived.Deep.RegionHeld3
namespace Go.Proofs.Ytcibhchbgendaab.L2
open Go Go.RowKit Go.Proofs.Ytcibhchbgendaab.Pg Go.Proofs.Ytcibhchbgendaab.Cl Go.Proofs.Ytcibhchbgendaab.R2 Go.Proofs.Ytcibhchbgendaab.By

set_option maxHeartbeats 4000000 in
set_option maxRecDepth 100000 in
theorem classCounts_walk (n : Nat) (hn : n < 256) (x : Value) (l : List Nat) (w : World) (hx : BRow w x l) :
    Calls Try.prog 3 #[.int .u8 n, x] w fun e w' => e = .returned (.bool true) ∧ Below w.heap.size w w' := by
  have hnot : ∀ (x : Bool) (w : World), (Op.unary .not (.bool x)).run Try.prog w = .ok (.bool (!x)) w := fun _ _ => rfl
  have HX := Lib.hid hx
  clear hx
  go_enter Try.func3, Try.ntmps3
  go_wp2_with fail
  refine (awake_any _).mono ?_
  rintro e w1 ⟨rfl, h1⟩
  have HW1 := Lib.hid h1
  clear h1
  go_wp2_with fail
  refine (pick_any n hn _).mono ?_
  rintro e w2 ⟨v, k, rfl, hp, hw⟩
  have HP := Lib.hid (PgV.lower hp HW1.out.size)
  have HK := Lib.hid hp.num
  have HW2 := Lib.hid (HW1.out.trans (hw.mono HW1.out.size))
  clear hp hw
  go_wp2_with fail
  refine (cut_any x l 300 (by decide) _ (HX.out.below HW2.out (Nat.le_refl _))).mono ?_
  rintro e w3 ⟨y, rfl, h1, _, h3⟩
  have HY := Lib.hid (h1.lower HW2.out.size)
  have HP3 := Lib.hid (HP.out.below h3)
  have HW3 := Lib.hid (HW2.out.trans (h3.mono HW2.out.size))
  clear h1 h3
  obtain ⟨lc, hlc⟩ : ∃ lc, lc = l.take 300 := ⟨_, rfl⟩
  rw [← hlc] at HY
  have hlen : lc.length ≤ 300 := by rw [hlc, List.length_take]; omega
  clear hlc HX
  obtain ⟨a, cap, rfl⟩ : ∃ a cap, y = .slice a lc.length cap := by
    rcases HY.out.row with ⟨rfl, rfl⟩ | ⟨a, cap, h, _⟩
    · exact ⟨_, _, rfl⟩
    · exact ⟨_, _, h⟩
  go_wp2_with fail
  obtain ⟨wo, hwo⟩ : ∃ wo : World, wo = w3.alloc (.cells (cells8 (countOf k [])) 28) := ⟨_, rfl⟩
  have HYo := Lib.hid (show BOwn w.heap.size wo (.slice a lc.length cap) lc from hwo ▸ HY.out.below ((Below.refl w3.heap.size w3).alloc (Nat.le_refl _) _) (Nat.le_refl _))
  have HPo := Lib.hid (show PgV w.heap.size wo v k from hwo ▸ HP3.out.below ((Below.refl w3.heap.size w3).alloc (Nat.le_refl _) _))
  have HWo := Lib.hid (show Below w.heap.size w wo from hwo ▸ HW3.out.alloc HW3.out.size _)
  have HBo := Lib.hid (show Bk wo w3.heap.size 28 (cells8 (countOf k [])) from hwo ▸ Bk.new _ _ _)
  go_loopw [21] (fun i wr => ∃ j : Nat, j ≤ lc.length ∧ i = .int .i64 j ∧ PgV w.heap.size wr v k ∧ BOwn w.heap.size wr (.slice a lc.length cap) lc ∧ Below w.heap.size w wr ∧ Bk wr w3.heap.size 28 (cells8 (countOf k (lc.take j)))) (fun i _ => lc.length - (intOf i).toNat)
  case atStart =>
    exact ⟨0, Nat.zero_le _, rfl, hwo ▸ HPo.out, hwo ▸ HYo.out, hwo ▸ HWo.out, hwo ▸ HBo.out⟩
  case round =>
    obtain ⟨j, hj1, rfl, hp1, hy1, hw1, hc1⟩ := hrel
    have HP1 := Lib.hid hp1
    have HY1 := Lib.hid hy1
    have HW1 := Lib.hid hw1
    have HC1 := Lib.hid hc1
    have hx1 := hy1.row
    clear hp1 hy1 hw1 hc1
    by_cases hlt : j < lc.length
    · obtain ⟨c, hcl⟩ : ∃ c, lc[j]? = some c := ⟨lc[j], List.getElem?_eq_getElem hlt⟩
      have hc256 : c < 256 := hx1.bound c (List.mem_of_getElem? hcl)
      obtain ⟨ad, rfl, hcell⟩ : ∃ ad, a = some ad ∧ wr.cell? (ad.add j) = some (.int .u8 c) := by
        rcases hx1 with ⟨h, rfl⟩ | ⟨ad, cap', h, _, _, h4, _⟩
        · simp at hlt
        · injection h with h
          exact ⟨ad, h, h4 j c hcl⟩
      have HCL := Lib.hid hcl
      clear hx1 hcl
      go_wp2_with fail
      refine (rof_any k HK.out c hc256 _).mono ?_
      rintro e w4 ⟨rfl, h3⟩
      obtain ⟨m, hm1, hm2, hm3⟩ := class_nat k c
      have HP2 := Lib.hid (HP1.out.below h3)
      have HY2 := Lib.hid (HY1.out.below h3 (Nat.le_refl _))
      have HW2 := Lib.hid (HW1.out.trans (h3.mono HW1.out.size))
      have HC2 := Lib.hid (HC1.out.below h3 HC1.out.lt)
      rw [hm1]
      have HM1 := Lib.hid hm1
      have hcell2 : w4.cell? ⟨w3.heap.size, m, none⟩ = some (.int .i64 (countOf k (lc.take j) m)) := HC2.out.cellv (cells8_at _ m hm2)
      have hfr2 : w4.frozen? ⟨w3.heap.size, m, none⟩ = false := HC2.out.frozen m
      clear h3 hcell hm1
      go_wp2_with fail
      have hset := HC2.out.set m (.int .i64 (wrap64 (countOf k (lc.take j) m + 1)))
      rw [cells8_bump _ m hm2] at hset
      go_roundw
      case rel =>
        refine ⟨j + 1, by omega, by go_num, HP2.out.set HC2.out (by decide) (cells8_at _ m hm2) _, ?_, HW2.out.setCell HW3.out.size _, ?_⟩
        · refine HY2.out.keep fun g n' c' e => Below.heap_setCell _ _ _ _ ?_
          rintro rfl
          exact HY2.out.notpage (t := 28) (by decide) _ _ _ e _ HC2.out
        · rw [take_snoc' lc j hlt, countOf_snoc, (List.getElem?_eq_some_iff.1 HCL.out).2, hm3]
          exact hset
      case measure => simp [intOf]; omega
    · have hej : lc.take j = lc := List.take_of_length_le (by omega)
      rw [hej] at HC1
      clear hx1
      have d0 := HC1.out.cellv (cells8_at _ 0 (by decide))
      have d1 := HC1.out.cellv (cells8_at _ 1 (by decide))
      have d2 := HC1.out.cellv (cells8_at _ 2 (by decide))
      have d3 := HC1.out.cellv (cells8_at _ 3 (by decide))
      have d4 := HC1.out.cellv (cells8_at _ 4 (by decide))
      have d5 := HC1.out.cellv (cells8_at _ 5 (by decide))
      have d6 := HC1.out.cellv (cells8_at _ 6 (by decide))
      have d7 := HC1.out.cellv (cells8_at _ 7 (by decide))
      have hsz1 : w.heap.size ≤ wr.drew.heap.size := HW1.out.size
      have HPd := Lib.hid (show PgV w.heap.size wr.drew v k from HP1.out)
      have HYd := Lib.hid (show BOwn w.heap.size wr.drew (.slice a lc.length cap) lc from HY1.out)
      have HWd := Lib.hid (show Below w.heap.size w wr.drew from HW1.out.drew)
      have HCd := Lib.hid (show Bk wr.drew w3.heap.size 28 (cells8 (countOf k lc)) from HC1.out)
      go_wp2_with fail
      have heq : ∀ w : World, (Op.equalIn 10000 28 (.agg (cells8 (countOf k lc))) (.agg #[.int .i64 (countOf k lc 0), .int .i64 (countOf k lc 1), .int .i64 (countOf k lc 2), .int .i64 (countOf k lc 3), .int .i64 (countOf k lc 4), .int .i64 (countOf k lc 5), .int .i64 (countOf k lc 6), .int .i64 (countOf k lc 7)])).run Try.prog w = .ok true w := eq_cells8 (countOf k lc)
      go_region_with (first
        | (go_at_call 13; refine (count_any w.heap.size v (.slice a lc.length cap) k lc _ hsz1 HPd.out HYd.out.row (HYd.out.notpage (by decide))).mono ?_; rintro e w5 ⟨rfl, h1, h2, h3⟩; have HP5 := Lib.hid h1; have HW5 := Lib.hid (HWd.out.trans h3); have HC5 := Lib.hid (h2.bk HCd.out (by decide)); clear h1 h2 h3; have e0 := HC5.out.cellv (cells8_at _ 0 (by decide)); have e1 := HC5.out.cellv (cells8_at _ 1 (by decide)); have e2 := HC5.out.cellv (cells8_at _ 2 (by decide)); have e3 := HC5.out.cellv (cells8_at _ 3 (by decide)); have e4 := HC5.out.cellv (cells8_at _ 4 (by decide)); have e5 := HC5.out.cellv (cells8_at _ 5 (by decide)); have e6 := HC5.out.cellv (cells8_at _ 6 (by decide)); have e7 := HC5.out.cellv (cells8_at _ 7 (by decide))))
      all_goals
        go_wp2_with fail
        go_ret
        exact ⟨rfl, HW5.out⟩

theorem classCounts_any (x : Int) (a : Option Addr) (len cap : Nat) (zs : List Int) (w : World) (hx : (Lit.int .u8 x).wf = true) (hr : IsRow .u8 w a len cap zs) :
    Calls Try.prog 3 #[.int .u8 x, .slice a len cap] w fun e w' => e = .returned (.bool true) ∧ Below w.heap.size w w' := by
  obtain ⟨n, hn, rfl⟩ := byte_nat' hx
  obtain ⟨l, _, hl⟩ := hr.bytes
  exact classCounts_walk n hn _ l w hl
end Go.Proofs.Ytcibhchbgendaab.L2
