/- The walk of the law SfieldActs. -/
import Derived.Test.YtcibhchbgendaaaDoorSfAwake
import Derived.Test.YtcibhchbgendaaaDoorSfMake
import Derived.Test.YtcibhchbgendaaaDoorSfName
import Derived.Test.YtcibhchbgendaaaDoorSfOpen
namespace Go.Proofs.YtcibhchbgendaaaDoor.Sf
open Go Go.RowKit Go.Proofs.YtcibhchbgendaaaDoor.By
attribute [local go_sem ↓] Go.wp_at_zero Go.wp_at_succ

set_option maxHeartbeats 8000000 in
set_option maxRecDepth 100000 in
theorem sfieldActs_walk (x : AEl) (w : World) (hx : x.R w) (hc : Cmds w) (hk : Kinds w) :
    Calls Tryd.prog 6 #[aval x.a x.cv x.rv] w fun e w' => e = .returned (.bool true) ∧ Below w.heap.size w w' := by
  obtain ⟨⟨k, c, m, b, q, cs, rc⟩, cv, rv⟩ := x
  obtain ⟨hq, hx1, hx2⟩ := hx
  change q < 256 at hq
  change BRow w cv cs at hx1
  change BRow w rv rc at hx2
  simp only [aval]
  obtain ⟨ca, cac, rfl⟩ := BRow_form hx1
  obtain ⟨ra, rac, rfl⟩ := BRow_form hx2
  obtain ⟨n1, e1⟩ : ∃ n, n = cs.length := ⟨_, rfl⟩
  obtain ⟨n2, e2⟩ : ∃ n, n = rc.length := ⟨_, rfl⟩
  rw [← e1] at hx1 ⊢
  rw [← e2] at hx2 ⊢
  have HB0 := Lib.hid ((Below.refl w.heap.size w).alloc (Nat.le_refl _) (.cells #[.int .i64 k, .int .i64 c, .int .i64 m, .bool b, .int .u8 (q : Int), .slice ca n1 cac, .slice ra n2 rac] 26))
  have HK0 := Lib.hid (Bk.new w 26 #[.int .i64 k, .int .i64 c, .int .i64 m, .bool b, .int .u8 (q : Int), .slice ca n1 cac, .slice ra n2 rac])
  have HC := Lib.hid hc
  have HK := Lib.hid hk
  have HX1 := Lib.hid (fun (W : World) (h : Below w.heap.size w W) => hx1.below h (Nat.le_refl _))
  have HX2 := Lib.hid (fun (W : World) (h : Below w.heap.size w W) => hx2.below h (Nat.le_refl _))
  clear hx1 hx2 hc hk e1 e2
  go_enter Tryd.func6, Tryd.ntmps6
  go_wp2_with fail
  refine (awake_any _ (HC.out.below HB0.out HC.out.lt)).mono ?_
  rintro e w1 ⟨rfl, h1⟩
  have HB1 := Lib.hid (HB0.out.trans (h1.mono (by simp)))
  have HK1 := Lib.hid (HK0.out.below h1 (by simp))
  have hs1 : w.heap.size + 1 ≤ w1.heap.size := by have := h1.size; simp at this; omega
  obtain ⟨d0, d1, d2, d3, d4, d5, d6⟩ := cells7 HK1.out
  clear h1
  go_wp2_with fail
  refine (few_any ⟨k, c, m, b, q, cs, rc⟩ (.slice ca n1 cac) (.slice ra n2 rac) _ (HX1.out _ HB1.out) (HX2.out _ HB1.out)).mono ?_
  rintro e w2 ⟨⟨v1, v2, rfl, ho1, ho2⟩, h2⟩
  obtain ⟨fs, hfs⟩ : ∃ fs, cs.take 20 = fs := ⟨_, rfl⟩
  obtain ⟨fr, hfr⟩ : ∃ fr, rc.take 300 = fr := ⟨_, rfl⟩
  have hfl : fs.length ≤ 20 := by rw [← hfs, List.length_take]; omega
  have hfrl : fr.length ≤ 300 := by rw [← hfr, List.length_take]; omega
  have hff1 : fs.take 20 = fs := List.take_of_length_le hfl
  have hff2 : fr.take 300 = fr := List.take_of_length_le hfrl
  simp only [fewOf, aval, hfs, hfr] at ho1 ho2 ⊢
  obtain ⟨p1, c1, rfl⟩ := BOwn_form ho1
  obtain ⟨p2, c2, rfl⟩ := BOwn_form ho2
  obtain ⟨nf, e1⟩ : ∃ n, n = fs.length := ⟨_, rfl⟩
  obtain ⟨nr, e2⟩ : ∃ n, n = fr.length := ⟨_, rfl⟩
  rw [← e1] at ho1 ⊢
  rw [← e2] at ho2 ⊢
  have HNF := Lib.hid e1
  have HNR := Lib.hid e2
  have HFF := Lib.hid (And.intro hff1 hff2)
  clear d0 d1 d2 d3 d4 d5 d6
  have HK2 := Lib.hid (HK1.out.below h2 (by omega))
  have HB2 := Lib.hid (HB1.out.trans (h2.mono (by omega)))
  have HO1 := Lib.hid (ho1.lower (C := w.heap.size + 1) hs1)
  have HO2 := Lib.hid (ho2.lower (C := w.heap.size + 1) hs1)
  have hs2 : w.heap.size + 1 ≤ w2.heap.size := by have := h2.size; omega
  obtain ⟨d0, d1, d2, d3, d4, d5, d6⟩ := cells7 HK2.out
  obtain ⟨f0, f1, f2, f3, f4, f5, f6⟩ := frozen7 HK2.out
  clear ho1 ho2 h2 hfs hfr hff1 hff2 e1 e2
  go_wp2_with fail
  clear d0 d1 d2 d3 d4 d5 d6 f0 f1 f2 f3 f4 f5 f6
  have HKF := Lib.hid (Bk_fill7 HK2.out (.int .i64 k) (.int .i64 c) (.int .i64 m) (.bool b) (.int .u8 (q : Int)) (.slice p1 nf c1) (.slice p2 nr c2))
  have HBF := Lib.hid (below_fill7 HB2.out (g := w.heap.size) (Nat.le_refl _) (.int .i64 k) (.int .i64 c) (.int .i64 m) (.bool b) (.int .u8 (q : Int)) (.slice p1 nf c1) (.slice p2 nr c2))
  have HOF1 := Lib.hid (BOwn_fill7 HO1.out (g := w.heap.size) (by omega) (.int .i64 k) (.int .i64 c) (.int .i64 m) (.bool b) (.int .u8 (q : Int)) (.slice p1 nf c1) (.slice p2 nr c2))
  have HOF2 := Lib.hid (BOwn_fill7 HO2.out (g := w.heap.size) (by omega) (.int .i64 k) (.int .i64 c) (.int .i64 m) (.bool b) (.int .u8 (q : Int)) (.slice p1 nf c1) (.slice p2 nr c2))
  have hsF : w.heap.size + 1 ≤ (((((((w2.setCell ⟨w.heap.size, 0, none⟩ (.int .i64 k)).setCell ⟨w.heap.size, 1, none⟩ (.int .i64 c)).setCell ⟨w.heap.size, 2, none⟩ (.int .i64 m)).setCell ⟨w.heap.size, 3, none⟩ (.bool b)).setCell ⟨w.heap.size, 4, none⟩ (.int .u8 (q : Int))).setCell ⟨w.heap.size, 5, none⟩ (.slice p1 nf c1)).setCell ⟨w.heap.size, 6, none⟩ (.slice p2 nr c2)).heap.size := by simp [World.setCell]; omega
  obtain ⟨WF, hWF⟩ : ∃ WF, WF = (((((((w2.setCell ⟨w.heap.size, 0, none⟩ (.int .i64 k)).setCell ⟨w.heap.size, 1, none⟩ (.int .i64 c)).setCell ⟨w.heap.size, 2, none⟩ (.int .i64 m)).setCell ⟨w.heap.size, 3, none⟩ (.bool b)).setCell ⟨w.heap.size, 4, none⟩ (.int .u8 (q : Int))).setCell ⟨w.heap.size, 5, none⟩ (.slice p1 nf c1)).setCell ⟨w.heap.size, 6, none⟩ (.slice p2 nr c2)) := ⟨_, rfl⟩
  rw [← hWF] at HKF HBF HOF1 HOF2 hsF ⊢
  clear hWF
  refine (few_any ⟨k, c, m, b, q, fs, fr⟩ (.slice p1 nf c1) (.slice p2 nr c2) _ HOF1.out.row HOF2.out.row).mono ?_
  rintro e w3 ⟨⟨v1, v2, rfl, ho1, ho2⟩, h3⟩
  simp only [fewOf, aval, HFF.out.1, HFF.out.2] at ho1 ho2 ⊢
  obtain ⟨p3, c3, rfl⟩ := BOwn_form ho1
  obtain ⟨p4, c4, rfl⟩ := BOwn_form ho2
  rw [← HNF.out] at ho1 ⊢
  rw [← HNR.out] at ho2 ⊢
  have HB3 := Lib.hid (HBF.out.trans (h3.mono (by omega)))
  have HK3 := Lib.hid (HKF.out.below h3 (by omega))
  have HO13 := Lib.hid (HOF1.out.below h3 (Nat.le_refl _))
  have HO23 := Lib.hid (HOF2.out.below h3 (Nat.le_refl _))
  have HO3 := Lib.hid (ho1.lower (C := w.heap.size + 1) hsF)
  have HO4 := Lib.hid (ho2.lower (C := w.heap.size + 1) hsF)
  have hs3 : w.heap.size + 1 ≤ w3.heap.size := Nat.le_trans hsF h3.size
  clear ho1 ho2 h3 hsF
  go_wp2_with fail
  refine (mfield_any ⟨k, c, m, b, q, fs, fr⟩ (w.heap.size + 1) (.slice p3 nf c3) (.slice p4 nr c4) _ hq HO3.out HO4.out (by show fs.length ≤ 1000; omega) (by show fr.length ≤ 1000; omega) (HC.out.below HB3.out HC.out.lt)).mono ?_
  rintro e w4 ⟨⟨v4, rfl, ho4⟩, h4⟩
  obtain ⟨⟨⟨id, dl⟩, er⟩, hmk⟩ : ∃ r, makeOf ⟨k, c, m, b, q, fs, fr⟩ = r := ⟨_, rfl⟩
  have hsm : dl.length ≤ 301 := by
    have := make_len ⟨k, c, m, b, q, fs, fr⟩ ⟨hq, hfl, hfrl⟩
    rw [hmk] at this
    exact this
  rw [hmk] at ho4 ⊢
  change BOwn w3.heap.size w4 v4 dl at ho4
  obtain ⟨p5, c5, rfl⟩ := BOwn_form ho4
  obtain ⟨nd, e1⟩ : ∃ n, n = dl.length := ⟨_, rfl⟩
  rw [← e1] at ho4 hsm ⊢
  have HND := Lib.hid e1
  have HMK := Lib.hid hmk
  have HB4 := Lib.hid (HB3.out.trans (h4.mono (by omega)))
  have HK4 := Lib.hid (HK3.out.below h4 (by omega))
  have HO14 := Lib.hid (HO13.out.below h4 (Nat.le_refl _))
  have HO24 := Lib.hid (HO23.out.below h4 (Nat.le_refl _))
  have HD4 := Lib.hid (ho4.lower (C := w.heap.size + 1) hs3)
  have hs4 : w.heap.size + 1 ≤ w4.heap.size := Nat.le_trans hs3 h4.size
  have HF4 := Lib.hid (Bk.new w4 40 #[.int .u8 (id : Int), .slice p5 nd c5])
  have HBF4 := Lib.hid ((Below.refl w4.heap.size w4).alloc (Nat.le_refl _) (.cells #[.int .u8 (id : Int), .slice p5 nd c5] 40))
  obtain ⟨d0, d1, d2, d3, d4, d5, d6⟩ := cells7 HK4.out
  have hl4 : w.heap.size < w4.heap.size := by omega
  clear ho4 h4 hmk e1
  go_wp2_with fail
  refine (rmake_any ⟨k, c, m, b, q, fs, fr⟩ (.slice p1 nf c1) (.slice p2 nr c2) _ hq (HO14.out.below HBF4.out (Nat.le_refl _)).row (HO24.out.below HBF4.out (Nat.le_refl _)).row (by show fs.length ≤ 1000; omega) (by show fr.length ≤ 1000; omega)).mono ?_
  rintro e w5 ⟨⟨v5, rfl, ho5⟩, h5⟩
  rw [HMK.out] at ho5 ⊢
  change BOwn _ w5 v5 dl at ho5
  obtain ⟨p6, c6, rfl⟩ := BOwn_form ho5
  rw [← HND.out] at ho5 ⊢
  clear d0 d1 d2 d3 d4 d5 d6
  have HB5 := Lib.hid (HB4.out.trans ((HBF4.out.mono (by omega)).trans (h5.mono (by simp; omega))))
  have HK5 := Lib.hid ((HK4.out.alloc _).below h5 (by simp; omega))
  have HF5 := Lib.hid (HF4.out.below h5 (by simp))
  have HD5 := Lib.hid ((HD4.out.below HBF4.out (Nat.le_refl _)).below h5 (Nat.le_refl _))
  have HO15 := Lib.hid ((HO14.out.below HBF4.out (Nat.le_refl _)).below h5 (Nat.le_refl _))
  have HO25 := Lib.hid ((HO24.out.below HBF4.out (Nat.le_refl _)).below h5 (Nat.le_refl _))
  have HE5 := Lib.hid (ho5.lower (C := w.heap.size + 1) (by simp; omega))
  have hs5 : w4.heap.size + 1 ≤ w5.heap.size := by have := h5.size; simp at this; omega
  have HG5 := Lib.hid (Bk.new w5 43 #[.int .u8 (id : Int), .slice p6 nd c6])
  have HBG5 := Lib.hid ((Below.refl w5.heap.size w5).alloc (Nat.le_refl _) (.cells #[.int .u8 (id : Int), .slice p6 nd c6] 43))
  have HB5G := Lib.hid (HB5.out.trans (HBG5.out.mono (by omega)))
  have hl5 : w.heap.size < w5.heap.size := by omega
  have hl45 : w4.heap.size < w5.heap.size := by omega
  have hsame := same_any (.slice p5 nd c5) (.slice p6 nd c6) dl dl ((w5.alloc (.cells #[.int .u8 (id : Int), .slice p6 nd c6] 43)).drew) (show BRow (w5.alloc (.cells #[.int .u8 (id : Int), .slice p6 nd c6] 43)) _ _ from (HD5.out.below HBG5.out (Nat.le_refl _)).row) (show BRow (w5.alloc (.cells #[.int .u8 (id : Int), .slice p6 nd c6] 43)) _ _ from (HE5.out.below HBG5.out (Nat.le_refl _)).row)
  rw [decide_eq_true rfl] at hsame
  have HSAME := Lib.hid hsame
  obtain ⟨W5, hW5⟩ : ∃ W5, W5 = (w5.alloc (.cells #[.int .u8 (id : Int), .slice p6 nd c6] 43)) := ⟨_, rfl⟩
  have HF6 := Lib.hid (show Bk W5 w4.heap.size 40 #[.int .u8 (id : Int), .slice p5 nd c5] by rw [hW5]; exact HF5.out.alloc _)
  have HG6 := Lib.hid (show Bk W5 w5.heap.size 43 #[.int .u8 (id : Int), .slice p6 nd c6] by rw [hW5]; exact HG5.out)
  have HK6 := Lib.hid (show Bk W5 w.heap.size 26 #[.int .i64 k, .int .i64 c, .int .i64 m, .bool b, .int .u8 (q : Int), .slice p1 nf c1, .slice p2 nr c2] by rw [hW5]; exact HK5.out.alloc _)
  have HD6 := Lib.hid (show BOwn (w.heap.size + 1) W5 (.slice p5 nd c5) dl by rw [hW5]; exact HD5.out.below HBG5.out (Nat.le_refl _))
  have HO16 := Lib.hid (show BOwn (w.heap.size + 1) W5 (.slice p1 nf c1) fs by rw [hW5]; exact HO15.out.below HBG5.out (Nat.le_refl _))
  have HO26 := Lib.hid (show BOwn (w.heap.size + 1) W5 (.slice p2 nr c2) fr by rw [hW5]; exact HO25.out.below HBG5.out (Nat.le_refl _))
  have HB6 := Lib.hid (show Below w.heap.size w W5 by rw [hW5]; exact HB5G.out)
  have hs6 : w5.heap.size + 1 ≤ W5.heap.size := by rw [hW5]; simp
  have hneI : ((id : Int) != (id : Int)) = false := bne_self_eq_false' _
  have hne : ((er : Int) != er) = false := bne_self_eq_false' er
  rw [← hW5] at hsame
  have HSAME2 := Lib.hid hsame
  clear HSAME
  clear ho5 h5 hsame
  go_wp2_with fail
  rw [← hW5]
  have a1 : W5.drew.cell? ⟨w4.heap.size, 0, none⟩ = some (.int .u8 (id : Int)) := HF6.out.cellv (i := 0) rfl
  have a2 : W5.drew.cell? ⟨w4.heap.size, 1, none⟩ = some (.slice p5 nd c5) := HF6.out.cellv (i := 1) rfl
  have a3 : W5.drew.cell? ⟨w5.heap.size, 0, none⟩ = some (.int .u8 (id : Int)) := HG6.out.cellv (i := 0) rfl
  have a4 : W5.drew.cell? ⟨w5.heap.size, 1, none⟩ = some (.slice p6 nd c6) := HG6.out.cellv (i := 1) rfl
  have a5 : W5.drew.cell? ⟨w.heap.size, 0, none⟩ = some (.int .i64 k) := HK6.out.cellv (i := 0) rfl
  clear hW5
  go_region_held3 (fun W' => W'.cell? ⟨w4.heap.size, 0, none⟩ = some (.int .u8 (id : Int)) ∧ W'.cell? ⟨w4.heap.size, 1, none⟩ = some (.slice p5 nd c5) ∧ W'.cell? ⟨w5.heap.size, 0, none⟩ = some (.int .u8 (id : Int)) ∧ W'.cell? ⟨w5.heap.size, 1, none⟩ = some (.slice p6 nd c6) ∧ W'.cell? ⟨w.heap.size, 0, none⟩ = some (.int .i64 k)) (first | assumption | go_keep) (first
    | (go_at_call 18; refine HSAME2.out.mono ?_; rintro e w6 ⟨rfl, rfl⟩)
    | (go_at_call 29; refine (mkind_any k _ (HK.out.below HB6.out.drew HK.out.lt)).mono ?_; rintro e w6 ⟨rfl, rfl⟩)
    | (go_at_call 30; refine (rkind_any k _).mono ?_; rintro e w6 ⟨rfl, h6⟩; have H6 := Lib.hid h6; have b1 := (HF6.out.drew.below h6 HF6.out.drew.lt).cellv (i := 0) rfl; have b2 := (HF6.out.drew.below h6 HF6.out.drew.lt).cellv (i := 1) rfl; have b3 := (HG6.out.drew.below h6 HG6.out.drew.lt).cellv (i := 0) rfl; have b4 := (HG6.out.drew.below h6 HG6.out.drew.lt).cellv (i := 1) rfl; have b5 := (HK6.out.drew.below h6 HK6.out.drew.lt).cellv (i := 0) rfl; clear h6)
    | fail)
  have HB7 := Lib.hid (HB6.out.drew.trans (H6.out.mono HB6.out.drew.size))
  have hs7 : W5.heap.size ≤ w6.heap.size := H6.out.size
  clear a1 a2 a3 a4 a5 b1 b2 b3 b4 b5
  by_cases hz : er = 0
  · subst hz
    have HF7 := Lib.hid (HF6.out.drew.below H6.out HF6.out.drew.lt)
    have HK7 := Lib.hid (HK6.out.drew.below H6.out HK6.out.drew.lt)
    have HD7 := Lib.hid (show BOwn (w.heap.size + 1) w6 (.slice p5 nd c5) dl from (show BOwn (w.heap.size + 1) W5.drew (.slice p5 nd c5) dl from HD6.out).below H6.out (Nat.le_refl _))
    have HO17 := Lib.hid (show BOwn (w.heap.size + 1) w6 (.slice p1 nf c1) fs from (show BOwn (w.heap.size + 1) W5.drew (.slice p1 nf c1) fs from HO16.out).below H6.out (Nat.le_refl _))
    have HO27 := Lib.hid (show BOwn (w.heap.size + 1) w6 (.slice p2 nr c2) fr from (show BOwn (w.heap.size + 1) W5.drew (.slice p2 nr c2) fr from HO26.out).below H6.out (Nat.le_refl _))
    have hpl0 : actOf id dl = (plainOf ⟨k, c, m, b, q, fs, fr⟩, 0) := by
      have h := make_act (a := ⟨k, c, m, b, q, fs, fr⟩) (by rw [HMK.out])
      rw [HMK.out] at h
      exact h
    obtain ⟨pa, hpa⟩ : ∃ pa, plainOf ⟨k, c, m, b, q, fs, fr⟩ = pa := ⟨_, rfl⟩
    rw [hpa] at hpl0
    have HPA := Lib.hid hpa
    have HPL0 := Lib.hid hpl0
    obtain ⟨k0, k1⟩ := (cells2 HF7.out).1
    clear hpl0 hpa
    go_wp2_with fail
    refine (fact_any (w.heap.size + 1) id _ dl _ HD7.out (by have := HND.out; omega) (HC.out.below HB7.out HC.out.lt)).mono ?_
    rintro e w7 ⟨⟨v8, v9, rfl, ho8, ho9⟩, h7⟩
    rw [HPL0.out] at ho8 ho9 ⊢
    obtain ⟨pk, pc, pm, pb, pq, pcs, prc⟩ := pa
    simp only [aval] at ho8 ho9 ⊢
    obtain ⟨p8, c8, rfl⟩ := BOwn_form ho8
    obtain ⟨p9, c9, rfl⟩ := BOwn_form ho9
    obtain ⟨n8, e1⟩ : ∃ n, n = pcs.length := ⟨_, rfl⟩
    obtain ⟨n9, e2⟩ : ∃ n, n = prc.length := ⟨_, rfl⟩
    rw [← e1] at ho8 ⊢
    rw [← e2] at ho9 ⊢
    have HO8 := Lib.hid ho8
    have HO9 := Lib.hid ho9
    have HB8 := Lib.hid (HB7.out.trans (h7.mono HB7.out.size))
    have HK8 := Lib.hid (HK7.out.below h7 HK7.out.lt)
    have HO18 := Lib.hid (HO17.out.below h7 (Nat.le_refl _))
    have HO28 := Lib.hid (HO27.out.below h7 (Nat.le_refl _))
    have HBB := Lib.hid ((Below.refl w7.heap.size w7).alloc (Nat.le_refl _) (.cells #[.int .i64 pk, .int .i64 pc, .int .i64 pm, .bool pb, .int .u8 (pq : Int), .slice p8 n8 c8, .slice p9 n9 c9] 50))
    have HBK := Lib.hid (Bk.new w7 50 #[.int .i64 pk, .int .i64 pc, .int .i64 pm, .bool pb, .int .u8 (pq : Int), .slice p8 n8 c8, .slice p9 n9 c9])
    have HB8B := Lib.hid (HB8.out.trans (HBB.out.mono HB8.out.size))
    have hpl := plain_any ⟨k, c, m, b, q, fs, fr⟩ (.slice p1 nf c1) (.slice p2 nr c2) (w7.alloc (.cells #[.int .i64 pk, .int .i64 pc, .int .i64 pm, .bool pb, .int .u8 (pq : Int), .slice p8 n8 c8, .slice p9 n9 c9] 50)).drew (show BRow (w7.alloc (.cells #[.int .i64 pk, .int .i64 pc, .int .i64 pm, .bool pb, .int .u8 (pq : Int), .slice p8 n8 c8, .slice p9 n9 c9] 50)) _ _ from (HO18.out.below HBB.out (Nat.le_refl _)).row) (show BRow (w7.alloc (.cells #[.int .i64 pk, .int .i64 pc, .int .i64 pm, .bool pb, .int .u8 (pq : Int), .slice p8 n8 c8, .slice p9 n9 c9] 50)) _ _ from (HO28.out.below HBB.out (Nat.le_refl _)).row)
    rw [HPA.out] at hpl
    have HPL := Lib.hid hpl
    obtain ⟨d0, d1, d2, d3, d4, d5, d6⟩ := cells7 HK8.out
    have hl8 : w.heap.size < w7.heap.size := by have := h7.size; omega
    clear ho8 ho9 h7 e1 e2 hpl k0 k1
    go_wp2_with fail
    go_region_with (first
      | (go_at_call 31; refine HPL.out.mono ?_; rintro e w9 ⟨⟨pv, pu, rfl, hp1, hp2⟩, hb3⟩; have HB9 := Lib.hid (HBB.out.drew.trans (hb3.mono (by simp))); have HP1 := Lib.hid hp1; have HP2 := Lib.hid hp2; obtain ⟨g0, g1, g2, g3, g4, g5, g6⟩ := cells7 (HBK.out.drew.below hb3 (by simp)); clear hb3 hp1 hp2)
      | (go_at_call 23; refine (rsame_any ⟨pk, pc, pm, pb, pq, pcs, prc⟩ ⟨pk, pc, pm, pb, pq, pcs, prc⟩ _ _ _ _ _ (HO8.out.row.below HB9.out (Nat.le_refl _)) (HO9.out.row.below HB9.out (Nat.le_refl _)) HP1.out HP2.out).mono ?_; rintro e w10 ⟨rfl, hb4⟩; rw [sameA_refl]; have HB10 := Lib.hid (HB9.out.trans (hb4.mono HB9.out.size)); clear hb4)
      | fail)
    all_goals
      clear d0 d1 d2 d3 d4 d5 d6 g0 g1 g2 g3 g4 g5 g6
      go_wp2_with fail
      go_ret
      exact ⟨rfl, HB8.out.trans (HB10.out.mono HB8.out.size)⟩
  · have hzq : ((er : Int) != 0) = true := bne_iff_ne.2 hz
    clear hz
    go_wp2_with fail
    go_ret
    exact ⟨rfl, HB7.out⟩

theorem sfieldActs_any (x : AEl) (w : World) (hx : x.R w) (h : Cmds w ∧ Kinds w) :
    Calls Tryd.prog 6 #[aval x.a x.cv x.rv] w fun e w' => e = .returned (.bool true) ∧ Below w.heap.size w w' := sfieldActs_walk x w hx h.1 h.2
end Go.Proofs.YtcibhchbgendaaaDoor.Sf
