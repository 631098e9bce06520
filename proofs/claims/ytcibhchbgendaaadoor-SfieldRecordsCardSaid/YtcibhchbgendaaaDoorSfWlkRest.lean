/- The walk of the law SfieldRest. -/
import Derived.Test.YtcibhchbgendaaaDoorSfRec
import Derived.Test.YtcibhchbgendaaaDoorSfOpen
import Derived.Test.YtcibhchbgendaaaDoorSfWlkReads
namespace Go.Proofs.YtcibhchbgendaaaDoor.Sf
open Go Go.RowKit Go.Proofs.YtcibhchbgendaaaDoor.By

theorem few_step {xs : List AEl} {m k : Nat} {x : AEl} (hx : xs[k]? = some x) (hk : k < m) : ((xs.take (min (k + 1) m)).map fun y => fewOf y.a) = ((xs.take (min k m)).map fun y => fewOf y.a) ++ [fewOf x.a] := by
  rw [Nat.min_eq_left (by omega), Nat.min_eq_left (by omega), List.take_add_one, hx, List.map_append]
  rfl
theorem ASrc_len {W : World} {v : Value} {xs : List AEl} (h : ASrc W v xs) : ∃ a c, v = .slice a xs.length c ∧ xs.length ≤ maxLen := by
  rcases h with ⟨rfl, rfl⟩ | ⟨a, c, rfl, h1, h2, _⟩
  · exact ⟨_, _, rfl, by simp⟩
  · exact ⟨_, _, rfl, by omega⟩

theorem ASrc_req {W : World} {v : Value} {xs : List AEl} {N : Nat} (h : ASrc W v xs) (_ : N = xs.length) (x : AEl) (hx : x ∈ xs) : x.a.req < 256 := by
  rcases h with ⟨_, rfl⟩ | ⟨a, c, _, _, _, h⟩
  · cases hx
  · obtain ⟨i, hi⟩ := List.getElem?_of_mem hx
    exact (h i x hi).1.1
set_option maxHeartbeats 8000000 in
set_option maxRecDepth 100000 in
theorem sfieldRest_walk (v : Value) (xs : List AEl) (id : Nat) (hid : id < 256) (y : Value) (l : List Nat) (w : World) (hv : ASrc w v xs) (hy : BRow w y l) (hc : Cmds w) :
    Calls Tryd.prog 3 #[v, .int .u8 id, y] w fun e w' => e = .returned (.bool true) ∧ Below w.heap.size w w' := by
  obtain ⟨i0, hi, hz0, hz1, hz2⟩ := info_parts ract_info
  have HC := Lib.hid hc
  have HY := Lib.hid hy
  have HV := Lib.hid hv
  obtain ⟨a1, c1, rfl, hmax⟩ := ASrc_len hv
  obtain ⟨N, hN⟩ : ∃ N, N = xs.length := ⟨_, rfl⟩
  rw [← hN] at HV hmax ⊢
  have HN := Lib.hid hN
  have hN63 : N ≤ 9223372036854775807 := by unfold maxLen at hmax; omega
  clear hv hy hc hN hmax
  go_enter Tryd.func3, Tryd.ntmps3
  go_wp2_with fail
  refine (awake_any _ HC.out).mono ?_
  rintro e w1 ⟨rfl, h1⟩
  have HB1 := Lib.hid h1
  have hs1 := h1.size
  clear h1
  go_wp2_with fail
  go_loopw [7, 21] (fun vo i wr => ∃ (k : Nat) (pre : List AEl), k ≤ N ∧ i = .int .i64 k ∧ ARow 26 w1.heap.size wr vo pre ∧ pre.map AEl.a = ((xs.take (min k 4)).map fun y => fewOf y.a) ∧ Below w1.heap.size w1 wr) (fun _ i _ => N - (intOf i).toNat)
  case atStart => exact ⟨0, [], by omega, rfl, ⟨World.ownsRow_nil _ _ _ _, by simp⟩, by simp, Below.refl _ _⟩
  case round =>
    obtain ⟨k, pre, hk, rfl, ha, hm, hbr⟩ := hrel
    obtain ⟨ao, co, rfl⟩ := row_form ha.1
    have hpl : pre.length ≤ 4 := by
      have h := congrArg List.length hm
      rw [List.length_map, List.length_map, List.length_take] at h
      omega
    have HA := Lib.hid ha
    have HM := Lib.hid hm
    have HBR := Lib.hid hbr
    have hsz := hbr.size
    clear ha hm hbr
    by_cases hlt : k < N
    · obtain ⟨x, hx⟩ : ∃ x, xs[k]? = some x := ⟨xs[k]'(by have := HN.out; omega), List.getElem?_eq_getElem _⟩
      obtain ⟨ad, cap, hv, hl1, hl2, hcx⟩ : ∃ a cap, (Value.slice a1 N c1) = .slice (some a) N cap ∧ N ≤ cap ∧ cap ≤ maxLen ∧ ∀ i x, xs[i]? = some x → x.R w ∧ ∀ j u, x.cells[j]? = some u → w.cell? (a.add (i * 7 + j)) = some u := by
        rcases HV.out with ⟨h, h2⟩ | ⟨a, cap, h, h2, h3, h4⟩
        · have := HN.out; rw [h2] at this; simp at this; omega
        · exact ⟨a, cap, by rw [← HN.out] at h; exact h, by have := HN.out; omega, h3, h4⟩
      injection hv with hv1 _ hv3
      subst hv1 hv3
      obtain ⟨hxR, hxc⟩ := hcx k x hx
      have HXC := Lib.hid hxc
      have hcw : ∀ j u, x.cells[j]? = some u → wr.cell? (ad.add (k * 7 + j)) = some u := fun j u hu => by
        have h := HXC.out j u hu
        exact (cell_of_block (show wr.heap[(ad.add (k * 7 + j)).block]? = w.heap[_]? from ((HB1.out.trans (HBR.out.mono hs1)).block _ (cell_lt h)))).trans h
      obtain ⟨⟨ak, acm, am, ab, aq, acs, arc⟩, xcv, xrv⟩ := x
      obtain ⟨hq, hx1, hx2⟩ := hxR
      change aq < 256 at hq
      change BRow w xcv acs at hx1
      change BRow w xrv arc at hx2
      obtain ⟨ca, cac, rfl⟩ := BRow_form hx1
      obtain ⟨ra, rac, rfl⟩ := BRow_form hx2
      have HX1 := Lib.hid hx1
      have HX2 := Lib.hid hx2
      have HX := Lib.hid hx
      have HQ := Lib.hid hq
      have q0 : wr.cell? (ad.add (k * 7)) = some (.int .i64 ak) := hcw 0 _ rfl
      have q1 : wr.cell? ⟨(ad.add (k * 7)).block, (ad.add (k * 7)).off + 1, none⟩ = some (.int .i64 acm) := by have h := hcw 1 _ rfl; rw [← Go.Deep.add_add] at h; exact h
      have q2 : wr.cell? ⟨(ad.add (k * 7)).block, (ad.add (k * 7)).off + 2, none⟩ = some (.int .i64 am) := by have h := hcw 2 _ rfl; rw [← Go.Deep.add_add] at h; exact h
      have q3 : wr.cell? ⟨(ad.add (k * 7)).block, (ad.add (k * 7)).off + 3, none⟩ = some (.bool ab) := by have h := hcw 3 _ rfl; rw [← Go.Deep.add_add] at h; exact h
      have q4 : wr.cell? ⟨(ad.add (k * 7)).block, (ad.add (k * 7)).off + 4, none⟩ = some (.int .u8 (aq : Int)) := by have h := hcw 4 _ rfl; rw [← Go.Deep.add_add] at h; exact h
      have q5 : wr.cell? ⟨(ad.add (k * 7)).block, (ad.add (k * 7)).off + 5, none⟩ = some (.slice ca acs.length cac) := by have h := hcw 5 _ rfl; rw [← Go.Deep.add_add] at h; exact h
      have q6 : wr.cell? ⟨(ad.add (k * 7)).block, (ad.add (k * 7)).off + 6, none⟩ = some (.slice ra arc.length rac) := by have h := hcw 6 _ rfl; rw [← Go.Deep.add_add] at h; exact h
      clear hcw
      by_cases h4 : k < 4
      · have HW0 := Lib.hid ((Below.refl wr.heap.size wr).alloc (Nat.le_refl _) (.cells #[.int .i64 ak, .int .i64 acm, .int .i64 am, .bool ab, .int .u8 (aq : Int), .slice ca acs.length cac, .slice ra arc.length rac] 26))
        have HBw := Lib.hid (HB1.out.trans ((HBR.out.trans (HW0.out.mono hsz)).mono hs1))
        go_wp2_with fail
        clear q0 q1 q2 q3 q4 q5 q6
        refine (few_any ⟨ak, acm, am, ab, aq, acs, arc⟩ _ _ _ (HX1.out.below HBw.out (Nat.le_refl _)) (HX2.out.below HBw.out (Nat.le_refl _))).mono ?_
        rintro e w2 ⟨⟨cv, rv, rfl, h1, h2⟩, hb2⟩
        obtain ⟨fs, hfs⟩ : ∃ fs, acs.take 20 = fs := ⟨_, rfl⟩
        obtain ⟨fr, hfr⟩ : ∃ fr, arc.take 300 = fr := ⟨_, rfl⟩
        simp only [fewOf, aval, hfs, hfr] at h1 h2 ⊢
        obtain ⟨ca2, cc2, rfl⟩ := BOwn_form h1
        obtain ⟨ra2, rc2, rfl⟩ := BOwn_form h2
        have HFS := Lib.hid hfs
        have HFR := Lib.hid hfr
        have hsz2 := hb2.size
        simp only [World.size_alloc] at hsz2
        have HB02 := Lib.hid (HW0.out.trans (hb2.mono (by simp)))
        have HB2 := Lib.hid (HBR.out.trans (HB02.out.mono hsz))
        have HA2 := Lib.hid (ARow_below HA.out HB02.out)
        have H1 := Lib.hid (h1.lower (C := w1.heap.size) (by simp; omega))
        have H2 := Lib.hid (h2.lower (C := w1.heap.size) (by simp; omega))
        have hs12 : w1.heap.size ≤ w2.heap.size := by omega
        have HCL := Lib.hid (cells_lit w2 [.int .i64 ak, .int .i64 acm, .int .i64 am, .bool ab, .int .u8 (aq : Int), .slice ca2 fs.length cc2, .slice ra2 fr.length rc2] 26)
        clear h1 h2 hb2 hfs hfr
        go_wp2_with (at_builtin; refine wpList_append_own _ rfl _ _ 22 rfl w1.heap.size 26 i0 _ 7 80 Tryd.underlying22 hi hz0 hz1 hz2 rfl (by decide) _ _ _ rfl (HA2.out.1.alloc _) ⟨w2.heap.size, 0, none⟩ 1 1 [.int .i64 ak, .int .i64 acm, .int .i64 am, .bool ab, .int .u8 (aq : Int), .slice ca2 fs.length cc2, .slice ra2 fr.length rc2] rfl rfl HCL.out (by intro u hu; simp at hu; rcases hu with rfl | rfl | rfl | rfl | rfl | rfl | rfl <;> rfl) (by unfold maxLen; omega) (by omega) (by simp; omega) ?_; intro v7 w7 hown7 hgrow7 _; obtain ⟨har7, hb7, _⟩ := ARow_append (x := (⟨⟨ak, acm, am, ab, aq, fs, fr⟩, .slice ca2 fs.length cc2, .slice ra2 fr.length rc2⟩ : AEl)) HA2.out ⟨H1.out, H2.out⟩ (by decide) hs12 hown7 hgrow7; obtain ⟨g7, c7, rfl⟩ := ownsRow_succ hown7; have HAR7 := Lib.hid har7; have HB7 := Lib.hid (HB2.out.trans hb7); clear har7 hb7 hown7 hgrow7)
        refine ⟨⟨k + 1, pre ++ [(⟨⟨ak, acm, am, ab, aq, fs, fr⟩, .slice ca2 fs.length cc2, .slice ra2 fr.length rc2⟩ : AEl)], by omega, by go_num, HAR7.out, ?_, HB7.out⟩, by simp [intOf]; omega⟩
        rw [few_step HX.out h4, ← HM.out, List.map_append]
        have h5 := HFS.out
        have h6 := HFR.out
        simp [fewOf, h5, h6]
      · go_wp2_with fail
        clear q0 q1 q2 q3 q4 q5 q6
        have HW0 := Lib.hid ((Below.refl wr.heap.size wr).alloc (Nat.le_refl _) (.cells #[.int .i64 ak, .int .i64 acm, .int .i64 am, .bool ab, .int .u8 (aq : Int), .slice ca acs.length cac, .slice ra arc.length rac] 26))
        refine ⟨⟨k + 1, pre, by omega, by go_num, ARow_below HA.out HW0.out, ?_, HBR.out.trans (HW0.out.mono hsz)⟩, by simp [intOf]; omega⟩
        rw [HM.out, show min (k + 1) 4 = min k 4 by omega]
    · obtain rfl : k = N := by omega
      have hsm : ∀ x ∈ pre, Small x.a := by
        intro x hx
        have h : x.a ∈ pre.map AEl.a := List.mem_map.2 ⟨x, hx, rfl⟩
        rw [HM.out] at h
        obtain ⟨y, hy, e⟩ := List.mem_map.1 h
        rw [← e]
        exact few_small _ (ASrc_req HV.out HN.out y (List.mem_of_mem_take hy))
      have hsm2 : ∀ a ∈ pre.map AEl.a, Small a := by
        intro a ha
        obtain ⟨x, hx, rfl⟩ := List.mem_map.1 ha
        exact hsm x hx
      have HSM := Lib.hid hsm
      have HSM2 := Lib.hid hsm2
      clear hsm hsm2
      go_wp2_with fail
      refine (rrec_any _ _ pre _ HA.out HSM.out (by omega)).mono ?_
      rintro e w2 ⟨hend, h2⟩
      have HB2 := Lib.hid (HB1.out.trans ((HBR.out.trans (h2.mono hsz)).mono hs1))
      have hs2 := h2.size
      clear h2
      obtain ⟨⟨rl, er⟩, hr⟩ : ∃ r, recOf (pre.map AEl.a) = r := ⟨_, rfl⟩
      have hrl : rl.length ≤ 304 * 4 := by
        have h := rec_len (pre.map AEl.a) HSM2.out
        rw [hr, List.length_map] at h
        exact Nat.le_trans h (Nat.mul_le_mul_left _ hpl)
      rw [hr] at hend
      have HR := Lib.hid hr
      clear hr
      rcases hend with ⟨h0, p, c, rfl, ho⟩ | ⟨h0, rfl⟩
      · change er = 0 at h0
        subst h0
        obtain ⟨gf, cf, hf, hgf1, hgf2⟩ := own_some ho (by intro e; injection e with _ e _; simp at e)
        injection hf with hf1 _ hf3
        subst hf1 hf3
        obtain ⟨nr, hnr⟩ : ∃ nr, nr = rl.length := ⟨_, rfl⟩
        have HNR := Lib.hid hnr
        change BOwn wr.heap.size w2 (.slice (some ⟨gf, 0, none⟩) (rl.length + 1) c) (243 :: rl) at ho
        simp only [← hnr] at ho hrl ⊢
        have HF := Lib.hid ho
        clear ho hnr
        go_wp2_with fail
        refine (cut_any y l 100 (by decide) _ (HY.out.below HB2.out (Nat.le_refl _))).mono ?_
        rintro e w3 ⟨yv, rfl, hy, hyn, h3⟩
        obtain ⟨pl, hpq⟩ : ∃ pl, l.take 100 = pl := ⟨_, rfl⟩
        rw [hpq] at hy
        have hpl1 : pl.length ≤ 100 := by rw [← hpq, List.length_take]; omega
        obtain ⟨gp, cp, rfl, hgp1, hgp2⟩ := own_some hy hyn
        obtain ⟨np, hnp⟩ : ∃ np, np = pl.length := ⟨_, rfl⟩
        rw [← hnp] at hy hpl1 ⊢
        have HNP := Lib.hid hnp
        have HP := Lib.hid hy
        have HB3 := Lib.hid (HB2.out.trans (h3.mono HB2.out.size))
        have HF3 := Lib.hid (HF.out.below h3 (Nat.le_refl _))
        have HA3 := Lib.hid h3
        have hs3 := h3.size
        clear hy hyn h3 hpq hnp
        obtain ⟨hnl0, A4, hA4, hrow, hsl⟩ := BOwn_rest HF3.out 1 (by omega)
        have hsl1 : ∀ w : World, (Instr.slice 23 (.slice (some ⟨gf, 0, none⟩) (nr + 1) c) (some (.int .i64 1)) none none).run Tryd.prog w = .ok (.slice (some A4) nr (c - 1)) w := hsl
        have HROW := Lib.hid (show ∀ W : World, W.heap[gf]? = w3.heap[gf]? → BRow W (.slice (some A4) nr (c - 1)) rl from hrow)
        clear hrow hsl hA4 hnl0
        have hdiv : (3 + (np : Int)) / 256 = 0 := by omega
        obtain ⟨yn, hyn⟩ : ∃ yn, yn = 3 + np := ⟨_, rfl⟩
        have HYN := Lib.hid hyn
        have hyn1 : yn ≤ 103 := by omega
        have hmod : (3 + (np : Int)) % 256 = (yn : Int) := by omega
        clear hyn
        obtain ⟨FL, hFL⟩ : ∃ FL, FL = (pre.map AEl.a).map (fun a => (makeOf a).1) ++ [(id, pl)] := ⟨_, rfl⟩
        have HPURE := Lib.hid (show (fieldsOf (rl ++ ([0, 0, id] ++ pl)) = FL ∧ endOf (rl ++ ([0, 0, id] ++ pl)) = 0) ∧ (fieldsOf (rl ++ ([0, yn, id] ++ pl)) = FL ∧ endOf (rl ++ ([0, yn, id] ++ pl)) = 0) by
          have hrec : (recOf (pre.map AEl.a)).2 = 0 := by rw [HR.out]
          have h := rec_fields (pre.map AEl.a) HSM2.out hrec
          rw [HR.out] at h
          constructor
          · obtain ⟨h1, h2⟩ := h ([0, 0, id] ++ pl)
            rw [(fields_rest id pl).1] at h1
            rw [(fields_rest id pl).2] at h2
            exact ⟨h1.trans hFL.symm, h2⟩
          · have hb : [0, yn, id] ++ pl = bytesOf (id, pl) := by
              unfold bytesOf
              show _ = [(3 + pl.length) / 256 % 256, (3 + pl.length) % 256, id] ++ pl
              have e1 : (3 + pl.length) / 256 % 256 = 0 := by have := HNP.out; omega
              have e2 : (3 + pl.length) % 256 = yn := by have h1 := HNP.out; have h2 := HYN.out; omega
              rw [e1, e2]
            obtain ⟨h3, h4⟩ := rest_same id pl (by have := HNP.out; omega)
            rw [← hb] at h3 h4
            obtain ⟨h1, h2⟩ := h ([0, yn, id] ++ pl)
            rw [h3] at h1
            rw [h4] at h2
            exact ⟨h1.trans hFL.symm, h2⟩)
        have hfn : FL.length = pre.length + 1 := by rw [hFL]; simp
        have HP3 := Lib.hid HP.out
        clear hFL
        go_wp2_with fail
        refine (copy_any _ rl w3 (HROW.out w3 rfl) (by rw [← HNR.out]; omega)).mono ?_
        rintro e w4 ⟨v4, rfl, ho4, hn4, h4⟩
        obtain ⟨g4, c4, rfl, hg41, hg42⟩ := own_some ho4 hn4
        have HB4 := Lib.hid (HB3.out.trans (h4.mono HB3.out.size))
        have hs4 := h4.size
        have HLIT4 := Lib.hid (own_lit w4 [0, 0, id] (by simp) (by simp; omega))
        have HO4 := Lib.hid (show BOwn w3.heap.size (w4.alloc (.cells ([0, 0, id].map bv).toArray 5)) (.slice (some ⟨g4, 0, none⟩) rl.length c4) rl from ho4.below ((Below.refl _ _).alloc (Nat.le_refl _) _) (Nat.le_refl _))
        have HAL4 := Lib.hid (show Below w3.heap.size w3 (w4.alloc (.cells ([0, 0, id].map bv).toArray 5)) from h4.alloc hs4 _)
        have hsl4 : w3.heap.size ≤ (w4.alloc (.cells ([0, 0, id].map bv).toArray 5)).heap.size := by simp; omega
        obtain ⟨L4, hL4⟩ : ∃ L, L = rl ++ [0, 0, id] ++ pl := ⟨_, rfl⟩
        have HL4 := Lib.hid hL4
        obtain ⟨M4, hM4⟩ : ∃ L, L = rl ++ [0, 0, id] := ⟨_, rfl⟩
        have HM4 := Lib.hid hM4
        clear hM4
        have HSUM4 := Lib.hid (show rl.length + ([0, 0, id] : List Nat).length ≤ 1000000 by rw [← HNR.out]; simp; omega)
        have HSUMM4 := Lib.hid (show (rl ++ [0, 0, id]).length + pl.length ≤ 1000000 by rw [List.length_append, ← HNR.out, ← HNP.out]; simp; omega)
        have HNB4 := Lib.hid (show BOwn w3.heap.size w4 (.slice (some ⟨g4, 0, none⟩) rl.length c4) rl from ho4)
        have hTOK : True := trivial
        rw [← HNR.out]
        rw [← HNR.out] at HO4
        have HPB4 := Lib.hid (show ∀ W : World, Below w3.heap.size w3 W → BRow W (.slice (some ⟨gp, 0, none⟩) np cp) pl from fun W h => HP3.out.row.below h (Nat.le_refl _))
        clear ho4 hn4 h4 hL4
        go_wp2_with (first
          | (at_builtin; clear hTOK; refine wpList_append_brow rfl _ _ rfl w3.heap.size _ rl rfl HO4.out _ [0, 0, id] rfl HLIT4.out.row hsl4 HSUM4.out ?_; intro p4a c4a w4a hbo4 hgrow4; rw [← HM4.out] at hbo4 ⊢; have HBO4 := Lib.hid hbo4; have HBA4 := Lib.hid (HAL4.out.grown hgrow4 hsl4 (fun j hj => (HO4.out.2.lt j hj).1)); have hsa4 := HBA4.out.size; clear hbo4 hgrow4)
          | (at_builtin; go_loud (refine wpList_append_brow rfl _ _ rfl w3.heap.size _ M4 rfl HBO4.out _ pl rfl (HPB4.out _ HBA4.out) hsa4 (by rw [HM4.out]; exact HSUMM4.out) ?_; intro p4b c4b w4b hbo4 hgrow4; rw [show M4 ++ pl = L4 by rw [HL4.out, HM4.out]] at hbo4 ⊢; have HBB4 := Lib.hid (HBA4.out.grown hgrow4 hsa4 (fun j hj => (HBO4.out.2.lt j hj).1)); obtain ⟨g4b, c4d, hf, hgb4, hgl4⟩ := own_some hbo4 (fun e => by injection e with _ e _; rw [HL4.out] at e; simp at e); injection hf with hf1 _ hf3; subst hf1 hf3; have HBO4b := Lib.hid hbo4; clear hbo4 hgrow4))
          | fail)
        have hfe4 : fieldsOf L4 = FL ∧ endOf L4 = 0 := by
          rw [HL4.out, List.append_assoc]
          exact HPURE.out.1
        have hll4 : L4.length ≤ 1000000 := by rw [HL4.out, List.length_append]; exact HSUMM4.out
        have hfa := fields_any g4b 0 c4b 100 L4 _ (BOwn_win HBO4b.out).1 hll4 (by decide) (by decide) hgl4
        have hce : cutErr 100 L4 = 0 := by
          unfold cutErr
          rw [hfe4.1, if_neg (by omega), hfe4.2]
        rw [hfe4.1, hce, List.take_of_length_le (by omega)] at hfa
        have HFA4 := Lib.hid hfa
        have HBZ4 := Lib.hid (HB3.out.trans (HBB4.out.mono HB3.out.size))
        clear hfa hce hfe4
        refine HFA4.out.mono ?_
        rintro e w5 ⟨⟨v5, xs5, rfl, hfr5, hff5⟩, h5⟩
        obtain ⟨a5, c5, rfl⟩ := row_form hfr5.1
        obtain ⟨n5, hn5⟩ : ∃ n, n = xs5.length := ⟨_, rfl⟩
        have hnn5 : n5 = pre.length + 1 := by
          have h := congrArg List.length hff5
          rw [List.length_map] at h
          omega
        rw [← hn5] at hfr5 ⊢
        have HFR5 := Lib.hid hfr5
        have HFF5 := Lib.hid hff5
        have HB5 := Lib.hid (HBZ4.out.trans (h5.mono HBZ4.out.size))
        have HA5 := Lib.hid (HBB4.out.trans (h5.mono HBB4.out.size))
        have hs5 : w3.heap.size ≤ w5.heap.size := HA5.out.size
        have HP5 := Lib.hid (HP3.out.below HA5.out (Nat.le_refl _))
        have hsb4 : w3.heap.size ≤ w4b.heap.size := HBB4.out.size
        have hgfa4 : gf < w5.heap.size := by omega
        clear hfr5 hff5 h5 hn5 hsl4 hsa4 hgb4 hgl4 hg41 hg42 hll4 hs4
        go_wp2_with fail
        refine (copy_any _ rl w5 (HROW.out w5 (HA5.out.block gf (by omega))) (by rw [← HNR.out]; omega)).mono ?_
        rintro e w6 ⟨v6, rfl, ho6, hn6, h6⟩
        obtain ⟨g6, c6, rfl, hg61, hg62⟩ := own_some ho6 hn6
        have HB6 := Lib.hid (HB5.out.trans (h6.mono HB5.out.size))
        have hs6 := h6.size
        have HLIT6 := Lib.hid (own_lit w6 [0, yn, id] (by simp) (by simp; omega))
        have HO6 := Lib.hid (show BOwn w5.heap.size (w6.alloc (.cells ([0, yn, id].map bv).toArray 5)) (.slice (some ⟨g6, 0, none⟩) rl.length c6) rl from ho6.below ((Below.refl _ _).alloc (Nat.le_refl _) _) (Nat.le_refl _))
        have HAL6 := Lib.hid (show Below w5.heap.size w5 (w6.alloc (.cells ([0, yn, id].map bv).toArray 5)) from h6.alloc hs6 _)
        have hsl6 : w5.heap.size ≤ (w6.alloc (.cells ([0, yn, id].map bv).toArray 5)).heap.size := by simp; omega
        obtain ⟨L6, hL6⟩ : ∃ L, L = rl ++ [0, yn, id] ++ pl := ⟨_, rfl⟩
        have HL6 := Lib.hid hL6
        obtain ⟨M6, hM6⟩ : ∃ L, L = rl ++ [0, yn, id] := ⟨_, rfl⟩
        have HM6 := Lib.hid hM6
        clear hM6
        have HSUM6 := Lib.hid (show rl.length + ([0, yn, id] : List Nat).length ≤ 1000000 by rw [← HNR.out]; simp; omega)
        have HSUMM6 := Lib.hid (show (rl ++ [0, yn, id]).length + pl.length ≤ 1000000 by rw [List.length_append, ← HNR.out, ← HNP.out]; simp; omega)
        have HNB6 := Lib.hid (show BOwn w5.heap.size w6 (.slice (some ⟨g6, 0, none⟩) rl.length c6) rl from ho6)
        have hTOK : True := trivial
        rw [← HNR.out]
        rw [← HNR.out] at HO6
        have HPB6 := Lib.hid (show ∀ W : World, Below w5.heap.size w5 W → BRow W (.slice (some ⟨gp, 0, none⟩) np cp) pl from fun W h => HP5.out.row.below h (Nat.le_refl _))
        clear ho6 hn6 h6 hL6
        go_wp2_with (first
          | (at_builtin; clear hTOK; refine wpList_append_brow rfl _ _ rfl w5.heap.size _ rl rfl HO6.out _ [0, yn, id] rfl HLIT6.out.row hsl6 HSUM6.out ?_; intro p6a c6a w6a hbo6 hgrow6; rw [← HM6.out] at hbo6 ⊢; have HBO6 := Lib.hid hbo6; have HBA6 := Lib.hid (HAL6.out.grown hgrow6 hsl6 (fun j hj => (HO6.out.2.lt j hj).1)); have hsa6 := HBA6.out.size; clear hbo6 hgrow6)
          | (at_builtin; go_loud (refine wpList_append_brow rfl _ _ rfl w5.heap.size _ M6 rfl HBO6.out _ pl rfl (HPB6.out _ HBA6.out) hsa6 (by rw [HM6.out]; exact HSUMM6.out) ?_; intro p6b c6b w6b hbo6 hgrow6; rw [show M6 ++ pl = L6 by rw [HL6.out, HM6.out]] at hbo6 ⊢; have HBB6 := Lib.hid (HBA6.out.grown hgrow6 hsa6 (fun j hj => (HBO6.out.2.lt j hj).1)); obtain ⟨g6b, c6d, hf, hgb6, hgl6⟩ := own_some hbo6 (fun e => by injection e with _ e _; rw [HL6.out] at e; simp at e); injection hf with hf1 _ hf3; subst hf1 hf3; have HBO6b := Lib.hid hbo6; clear hbo6 hgrow6))
          | fail)
        have hfe6 : fieldsOf L6 = FL ∧ endOf L6 = 0 := by
          rw [HL6.out, List.append_assoc]
          exact HPURE.out.2
        have hll6 : L6.length ≤ 1000000 := by rw [HL6.out, List.length_append]; exact HSUMM6.out
        have hfa := fields_any g6b 0 c6b 100 L6 _ (BOwn_win HBO6b.out).1 hll6 (by decide) (by decide) hgl6
        have hce : cutErr 100 L6 = 0 := by
          unfold cutErr
          rw [hfe6.1, if_neg (by omega), hfe6.2]
        rw [hfe6.1, hce, List.take_of_length_le (by omega)] at hfa
        have HFA6 := Lib.hid hfa
        have HBZ6 := Lib.hid (HB5.out.trans (HBB6.out.mono HB5.out.size))
        clear hfa hce hfe6
        refine HFA6.out.mono ?_
        rintro e w7 ⟨⟨v7, xs7, rfl, hfr7, hff7⟩, h7⟩
        obtain ⟨a7, c7, rfl⟩ := row_form hfr7.1
        obtain ⟨n7, hn7⟩ : ∃ n, n = xs7.length := ⟨_, rfl⟩
        have hnn7 : n7 = pre.length + 1 := by
          have h := congrArg List.length hff7
          rw [List.length_map] at h
          omega
        rw [← hn7] at hfr7 ⊢
        have HFR7 := Lib.hid hfr7
        have HFF7 := Lib.hid hff7
        have HB7 := Lib.hid (HBZ6.out.trans (h7.mono HBZ6.out.size))
        have HA7 := Lib.hid (HBB6.out.trans (h7.mono HBB6.out.size))
        have hs7 : w5.heap.size ≤ w7.heap.size := HA7.out.size
        have HP7 := Lib.hid (HP5.out.below HA7.out (Nat.le_refl _))
        have hsb6 : w5.heap.size ≤ w6b.heap.size := HBB6.out.size
        have hgfa6 : gf < w7.heap.size := by omega
        clear hfr7 hff7 h7 hn7 hsl6 hsa6 hgb6 hgl6 hg61 hg62 hll6 hs6
        go_wp2_with fail
        have hq5 := HFR5.out
        rw [hnn5] at hq5
        have hq7 := HFR7.out
        rw [hnn7] at hq7
        have hq57 := FRow_below hq5 HA7.out
        have HQ5 := Lib.hid hq57
        have HQ7 := Lib.hid hq7
        have HQF := Lib.hid (HFF5.out.trans HFF7.out.symm)
        clear hq5 hq7 hq57
        refine (lsame_any _ _ _ _ _ _ xs5 xs7 _ HQ5.out HQ7.out).mono ?_
        rintro e w8 ⟨rfl, n8, rfl⟩
        rw [decide_eq_true HQF.out]
        go_wp2_with fail
        go_ret
        exact ⟨rfl, bl_drewN HB7.out _⟩
      · have hne : ((er : Int) != 0) = true := bne_iff_ne.2 h0
        go_wp2_with fail
        go_ret
        exact ⟨rfl, HB2.out⟩

theorem sfieldRest_any (v : Value) (xs : List AEl) (k : Int) (a : Option Addr) (len cap : Nat) (zs : List Int) (w : World) (hv : ASrc w v xs) (hk : (Lit.int .u8 k).wf = true) (hr : IsRow .u8 w a len cap zs) (hc : Cmds w) :
    Calls Tryd.prog 3 #[v, .int .u8 k, .slice a len cap] w fun e w' => e = .returned (.bool true) ∧ Below w.heap.size w w' := by
  obtain ⟨n, hn, rfl⟩ := byte_nat5 hk
  obtain ⟨l, _, hl⟩ := hr.bytes
  exact sfieldRest_walk v xs n hn _ l w hv hl hc
end Go.Proofs.YtcibhchbgendaaaDoor.Sf
