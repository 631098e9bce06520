/- The walk of the law PageTexts. -/
import Derived.Test.YtcibhchbgendaabPgTxt
import Derived.Test.YtcibhchbgendaabBySame
import Derived.Test.YtcibhchbgendaabLaw01
import Derived.Test.YtcibhchbgendaabRfSign
namespace Go.Proofs.Ytcibhchbgendaab.L1
open Go Go.RowKit Go.Proofs.Ytcibhchbgendaab.Pg Go.Proofs.Ytcibhchbgendaab.Rf Go.Proofs.Ytcibhchbgendaab.Cl Go.Proofs.Ytcibhchbgendaab.By

theorem byte_nat2 {x : Int} (h : (Lit.int .u8 x).wf = true) : ∃ n : Nat, n < 256 ∧ x = n := by
  simp only [Lit.wf, show IntKind.u8.min = 0 from rfl, show IntKind.u8.max = 255 from rfl] at h
  simp only [Bool.and_eq_true, decide_eq_true_eq] at h
  exact ⟨x.toNat, by omega, by omega⟩
theorem cat_sign (A : List UInt8) {k : Int} (hk : IsNum k) {c : Nat} (hc : c < 256) : (⟨A.toArray⟩ : ByteArray) ++ Utf8.encode (signOf k c) = ⟨(A ++ Lib.encodeRune (signOf k c)).toArray⟩ := by
  have h := encode_sign (signOf_small hk hc).1 (signOf_small hk hc).2
  rw [← h]
  have e : ∀ a b : ByteArray, a.data.toList = b.data.toList → a = b := by
    intro a b h
    cases a; cases b
    simp only at h
    congr 1
    exact Array.ext' h
  apply e
  simp

set_option maxHeartbeats 8000000 in
set_option maxRecDepth 100000 in
theorem pageTexts_walk (n : Nat) (hn : n < 256) (x : Value) (l : List Nat) (w : World) (hx : BRow w x l) :
    Calls Try.prog 5 #[.int .u8 n, x] w fun e w' => e = .returned (.bool true) ∧ Below w.heap.size w w' := by
  have hnot : ∀ (x : Bool) (w : World), (Op.unary .not (.bool x)).run Try.prog w = .ok (.bool (!x)) w := fun _ _ => rfl
  have HX := Lib.hid hx
  clear hx
  go_enter Try.func5, Try.ntmps5
  go_wp2_with fail
  refine (awake_any _).mono ?_
  rintro e w1 ⟨rfl, h1⟩
  have HW1 := Lib.hid h1
  clear h1
  go_wp2_with fail
  refine (pick_any n hn _).mono ?_
  rintro e w2 ⟨b, k, rfl, hk, hb, hp, hw⟩
  have HK := Lib.hid hk
  have HB := Lib.hid (Nat.le_trans HW1.out.size hb)
  have HP := Lib.hid hp
  have HW2 := Lib.hid (HW1.out.trans (hw.mono HW1.out.size))
  clear hk hb hp hw
  go_wp2_with fail
  refine (cut_any x l 300 (by decide) _ (HX.out.below HW2.out (Nat.le_refl _))).mono ?_
  rintro e w3 ⟨y, rfl, h1, _, h3⟩
  have HY := Lib.hid (h1.lower HW2.out.size)
  have HP3 := Lib.hid (HP.out.below h3)
  have HW3 := Lib.hid (HW2.out.trans (h3.mono HW2.out.size))
  clear h1 h3
  obtain ⟨lc, hlc⟩ : ∃ lc, lc = l.take 300 := ⟨_, rfl⟩
  rw [← hlc] at HY
  have hlen : lc.length ≤ 300 := by rw [hlc, List.length_take]; omega
  clear hlc HX
  obtain ⟨a, cap, rfl⟩ : ∃ a cap, y = .slice a lc.length cap := by
    rcases HY.out.row with ⟨rfl, rfl⟩ | ⟨a, cap, h, _⟩
    · exact ⟨_, _, rfl⟩
    · exact ⟨_, _, h⟩
  go_wp2_with fail
  refine (copy_any _ lc _ HY.out.row (by omega)).mono ?_
  rintro e w4 ⟨z, rfl, h1, _, h3⟩
  have HZ := Lib.hid (h1.lower HW3.out.size)
  have HY4 := Lib.hid (HY.out.below h3 (Nat.le_refl _))
  have HP4 := Lib.hid (HP3.out.below h3)
  have HW4 := Lib.hid (HW3.out.trans (h3.mono HW3.out.size))
  clear h1 h3
  go_wp2_with fail
  refine (text_any w.heap.size b k z lc _ HW4.out.size HB.out HP4.out HZ.out.row (by omega) (HZ.out.notpage (by decide))).mono ?_
  rintro e w5 ⟨rfl, h1, h2, h3⟩
  have hp5 : PageAt w5 b k := by
    rcases h1 with ⟨h, _⟩ | ⟨b', h, _, h5⟩
    · cases h
    · injection h with h; injection h with h; injection h with h; subst h; exact h5
  have HP5 := Lib.hid hp5
  have HY5 := Lib.hid (BOwn_step HY4.out h2)
  have HZ5 := Lib.hid (BOwn_step HZ.out h2)
  have HW5 := Lib.hid (HW4.out.trans h3)
  clear h1 h2 h3 hp5
  go_wp2_with fail
  go_loopw [9, 31] (fun s i wr => ∃ j : Nat, j ≤ lc.length ∧ i = .int .i64 j ∧ s = .string ⟨(txt k (lc.take j)).toArray⟩ ∧ wr = w5) (fun _ i _ => lc.length - (intOf i).toNat)
  case atStart => exact ⟨0, by omega, rfl, rfl, rfl⟩
  case round =>
    obtain ⟨wo, hwo⟩ : ∃ wo : World, wo = wr := ⟨_, rfl⟩
    obtain ⟨j, hj1, rfl, rfl, hwr⟩ := hrel
    subst hwr
    by_cases hlt : j < lc.length
    · obtain ⟨c, hcl⟩ : ∃ c, lc[j]? = some c := ⟨lc[j], List.getElem?_eq_getElem hlt⟩
      have hc256 : c < 256 := HY5.out.1 c (List.mem_of_getElem? hcl)
      obtain ⟨ad, rfl, hcell⟩ : ∃ ad, a = some ad ∧ wr.cell? (ad.add j) = some (.int .u8 c) := by
        rcases HY5.out.row with ⟨h, h'⟩ | ⟨ad, cap', h, _, _, h4, _⟩
        · rw [h'] at hlt; simp at hlt
        · injection h with h
          exact ⟨ad, h, h4 j c hcl⟩
      have HCL := Lib.hid hcl
      clear hcl
      go_wp2_with fail
      refine (rsign_any k HK.out c hc256 _).mono ?_
      rintro e w6 ⟨rfl, rfl⟩
      have hz1 : (ByteArray.mk (txt k (lc.take j)).toArray).size ≤ 1200 := by
        have h := txt_len k (lc.take j)
        rw [List.length_take] at h
        show (txt k (lc.take j)).toArray.size ≤ 1200
        simp
        omega
      have hz2 : (Utf8.encode (signOf k c)).size ≤ 4 := by
        have h := encode_sign (signOf_small HK.out hc256).1 (signOf_small HK.out hc256).2
        have h4 := (Lib.runeCells_le (signOf k c)).2
        rw [Lib.runeCells_length, ← h] at h4
        simpa using h4
      have hcat := cat_sign (txt k (lc.take j)) HK.out hc256
      have HCAT := Lib.hid hcat
      clear hcat
      go_wp2_with fail
      go_roundw
      case rel =>
        refine ⟨j + 1, by omega, by go_num, ?_, trivial⟩
        rw [HCAT.out, take_snoc2 lc j hlt, txt_snoc, (List.getElem?_eq_some_iff.1 HCL.out).2]
      case measure => simp [intOf]; omega
    · have hej : lc.take j = lc := List.take_of_length_le (by omega)
      rw [hej]
      have htl := txt_len k lc
      have hsz : (ByteArray.mk (txt k lc).toArray).size ≤ 1000000 := by
        show (txt k lc).toArray.size ≤ 1000000
        simp
        omega
      go_wp2_with fail
      refine (codes_any w.heap.size b k _ hsz _ HW5.out.size HB.out HP5.out).mono ?_
      rintro e w7 ⟨h0, h1, h2, h3⟩
      have hY7 := BOwn_step HY5.out h2
      have hZ7 := BOwn_step HZ5.out h2
      have HW7 := Lib.hid (HW5.out.trans h3)
      rcases h0 with ⟨l', v', hr, rfl, ho⟩ | ⟨n', x', hr, _⟩
      · rw [codesRun_txt HK.out HY5.out.1] at hr
        injection hr with hr
        subst hr
        have HO := Lib.hid ho.row
        have HY7 := Lib.hid hY7.row
        have HZ7 := Lib.hid hZ7.row
        clear h1 h2 h3 hY7 hZ7 ho
        go_wp2_with fail
        refine (same_any v' _ lc lc _ HO.out HY7.out).mono ?_
        rintro e w8 ⟨rfl, rfl⟩
        rw [decide_eq_true (rfl : lc = lc)]
        go_wp2_with fail
        refine (same_any z _ lc lc _ HZ7.out HY7.out).mono ?_
        rintro e w8 ⟨rfl, rfl⟩
        rw [decide_eq_true (rfl : lc = lc)]
        go_wp2_with fail
        go_ret
        exact ⟨rfl, HW7.out⟩
      · rw [codesRun_txt HK.out HY5.out.1] at hr
        cases hr

theorem pageTexts_any (x : Int) (a : Option Addr) (len cap : Nat) (zs : List Int) (w : World) (hx : (Lit.int .u8 x).wf = true) (hr : IsRow .u8 w a len cap zs) :
    Calls Try.prog 5 #[.int .u8 x, .slice a len cap] w fun e w' => e = .returned (.bool true) ∧ Below w.heap.size w w' := by
  obtain ⟨n, hn, rfl⟩ := byte_nat2 hx
  obtain ⟨l, _, hl⟩ := hr.bytes
  exact pageTexts_walk n hn _ l w hl
end Go.Proofs.Ytcibhchbgendaab.L1
