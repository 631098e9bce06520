/- The walk of the law SfieldReads. -/
import Derived.Test.YtcibhchbgendaaaDoorSfAwake
import Derived.Test.YtcibhchbgendaaaDoorSfAll
import Derived.Test.YtcibhchbgendaaaDoorSfRActs2
import Derived.Test.YtcibhchbgendaaaDoorSfRSame
import Derived.Test.YtcibhchbgendaaaDoorSfFlip
import Derived.Test.YtcibhchbgendaaaDoorSfWlkBytes
import Derived.RegionTactic
import Derived.BigRegion
import Derived.Deep.DrawnRows
namespace Go.Proofs.YtcibhchbgendaaaDoor.Sf
open Go Go.RowKit Go.Proofs.YtcibhchbgendaaaDoor.By
attribute [local go_sem ↓] Go.wp_at_zero Go.wp_at_succ

theorem own_some {B : Nat} {w : World} {v : Value} {l : List Nat} (h : BOwn B w v l) (hn : v ≠ .slice none 0 0) : ∃ g c, v = .slice (some ⟨g, 0, none⟩) l.length c ∧ B ≤ g ∧ g < w.heap.size := by
  rcases h.lt with h1 | ⟨g, n, c, h1, h2, h3⟩
  · exact absurd h1 hn
  · obtain ⟨a, c', e⟩ := BOwn_form h
    rw [h1] at e
    injection e with e1 e2 e3
    subst e2
    exact ⟨g, c, h1, h2, h3⟩
theorem BOwn_far {B g : Nat} {W W' : World} {v : Value} {l : List Nat} (h : BOwn B W v l) (hg : W.grownBy W' (some g)) (hB : g < B) : BOwn B W' v l :=
  h.keep fun g' n c e => by
    rcases h.lt with h1 | ⟨g2, n2, c2, h1, h2, h3⟩
    · rw [h1] at e; cases e
    · rw [h1] at e; injection e with e; injection e with e; injection e with e; subst e
      exact hg.block _ h3 (by intro e; injection e with e; omega)
theorem FRow_far {t : TypeId} {B g : Nat} {W W' : World} {v : Value} {xs : List El} (h : FRow t B W v xs) (hg : W.grownBy W' (some g)) (hB : g < B) : FRow t B W' v xs :=
  ⟨row_kept h.1 hg (fun r e => by injection e with e; exact .inr (by omega)), fun x hx => ⟨(h.2 x hx).1, BOwn_far (h.2 x hx).2 hg hB⟩⟩
theorem ARow_far {t : TypeId} {B g : Nat} {W W' : World} {v : Value} {xs : List AEl} (h : ARow t B W v xs) (hg : W.grownBy W' (some g)) (hB : g < B) : ARow t B W' v xs :=
  ⟨row_kept h.1 hg (fun r e => by injection e with e; exact .inr (by omega)), fun x hx => ⟨BOwn_far (h.2 x hx).1 hg hB, BOwn_far (h.2 x hx).2 hg hB⟩⟩
theorem flat_take {α : Type} (c : α → List Value) (n : Nat) (hc : ∀ x, (c x).length = n) : ∀ (xs : List α) (m : Nat), m ≤ xs.length → (xs.flatMap c).take (m * n) = (xs.take m).flatMap c
  | xs, 0, _ => by simp
  | [], m + 1, h => by simp at h
  | x :: xs, m + 1, h => by
    have ih := flat_take c n hc xs m (by simpa using h)
    rw [List.flatMap_cons, List.take_succ_cons, List.flatMap_cons, ← ih]
    rw [show (m + 1) * n = (c x).length + m * n by rw [hc, Nat.add_mul]; omega]
    rw [List.take_length_add_append]
theorem FRow_take {t : TypeId} {B : Nat} {W : World} {a : Option Addr} {n c : Nat} {xs : List El} (h : FRow t B W (.slice a n c) xs) (m : Nat) (hm : m ≤ xs.length) : FRow t B W (.slice a m c) (xs.take m) := by
  obtain ⟨⟨h1, h2⟩, h3⟩ := h
  have hf := flat_take El.cells 2 (fun _ => rfl) xs m hm
  have hl : (xs.take m).length = m := by rw [List.length_take]; omega
  refine ⟨?_, fun x hx => h3 x (List.mem_of_mem_take hx)⟩
  rw [hl]
  refine ⟨by rw [← hf, List.length_take]; omega, ?_⟩
  rcases h2 with ⟨e, hn⟩ | ⟨g, cap, cur, e, hB, hg, hc1, hc2, hc3, hc4⟩
  · injection e with e1 e2 e3
    subst e1 e3
    obtain rfl : m = 0 := by omega
    exact .inl ⟨rfl, rfl⟩
  · injection e with e1 e2 e3
    subst e1 e3
    refine .inr ⟨g, c, cur, rfl, hB, hg, by omega, hc2, hc3, ?_⟩
    rw [← hf, ← hc4, List.take_take]
    congr 1
    omega

theorem FRow_cap {t : TypeId} {B : Nat} {W : World} {a : Option Addr} {n c : Nat} {xs : List El} (h : FRow t B W (.slice a n c) xs) : n ≤ c := by
  rcases h.1.2 with ⟨e, hn⟩ | ⟨g, cap, cur, e, hB, hg, hc1, _⟩
  · injection e with e1 e2 e3; omega
  · injection e with e1 e2 e3; omega

set_option maxHeartbeats 8000000 in
set_option maxRecDepth 100000 in
theorem sfieldReads_walk (t : Nat) (ht : t < 256) (x : Value) (l : List Nat) (w : World) (hx : BRow w x l) (hc : Cmds w) :
    Calls Tryd.prog 5 #[x, .int .u8 t] w fun e w' => e = .returned (.bool true) ∧ Below w.heap.size w w' := by
  obtain ⟨i0, hi, hz0, hz1, hz2⟩ := info_parts field_info
  have HX := Lib.hid hx
  have HC := Lib.hid hc
  clear hx hc
  obtain ⟨r, hr, hr3⟩ : ∃ r : Nat, (t : Int) % 3 = r ∧ r < 3 := ⟨t % 3, by omega, by omega⟩
  have HR := Lib.hid hr
  clear hr
  go_enter Tryd.func5, Tryd.ntmps5
  go_wp2_with fail
  refine (awake_any _ HC.out).mono ?_
  rintro e w1 ⟨rfl, h1⟩
  have HB1 := Lib.hid h1
  have hs1 := h1.size
  clear h1
  go_wp2_with fail
  refine (cut_any x l 500 (by decide) _ (HX.out.below HB1.out (Nat.le_refl _))).mono ?_
  rintro e w2 ⟨y, rfl, hy, hyn, h2⟩
  obtain ⟨pl, hpl⟩ : ∃ pl, l.take 500 = pl := ⟨_, rfl⟩
  rw [hpl] at hy
  have hpl5 : pl.length ≤ 500 := by rw [← hpl, List.length_take]; omega
  obtain ⟨gp, cp, rfl, _, _⟩ := own_some hy hyn
  have HP := Lib.hid hy
  have HB2 := Lib.hid (HB1.out.trans (h2.mono hs1))
  have hs2 := h2.size
  clear hy hyn h2 hpl HX
  go_wp2_with fail
  refine (copy_any _ pl _ HP.out.row (by omega)).mono ?_
  rintro e w3 ⟨y, rfl, hy, hyn, h3⟩
  obtain ⟨gm, cm, rfl, hgm0, hgm3⟩ := own_some hy hyn
  have HM := Lib.hid hy
  have HP3 := Lib.hid (HP.out.below h3 (Nat.le_refl _))
  have HB3 := Lib.hid (HB2.out.trans (h3.mono (by omega)))
  have hs3 := h3.size
  clear hy hyn h3
  go_wp2_with fail
  refine (rall_any _ _ pl _ HP3.out (by omega)).mono ?_
  rintro e w4 ⟨⟨v4, ws, rfl, hws, hwf⟩, h4⟩
  obtain ⟨er, her⟩ : ∃ er, endOf pl = er := ⟨_, rfl⟩
  rw [her]
  obtain ⟨fl, hfl⟩ : ∃ fl, fieldsOf pl = fl := ⟨_, rfl⟩
  have hfn : fl.length ≤ 166 := by have := fieldsOf_len pl; rw [hfl] at this; omega
  rw [hfl] at hwf
  obtain ⟨a4, c4, rfl⟩ := row_form hws.1
  have HW := Lib.hid hws
  have HWF := Lib.hid hwf
  have HM4 := Lib.hid (HM.out.below h4 (Nat.le_refl _))
  have HP4 := Lib.hid (HP3.out.below h4 (Nat.le_refl _))
  have HB4 := Lib.hid (HB3.out.trans (h4.mono (by omega)))
  have hs4 := h4.size
  have HFL := Lib.hid hfl
  have HER := Lib.hid her
  have hwn : ws.length ≤ 166 := by have h := congrArg List.length hwf; simp at h; omega
  obtain ⟨nw, hnw⟩ : ∃ nw, nw = ws.length := ⟨_, rfl⟩
  have HNW := Lib.hid hnw
  rw [← hnw] at HW hwn ⊢
  clear hws hwf h4 hfl her hnw
  go_wp2_with fail
  have hfa := fields_any gm 0 cm 10000 pl _ (BOwn_win HM4.out).1 (by omega) (by decide) (by decide) (by omega)
  have hce : cutErr 10000 pl = er := by
    unfold cutErr
    rw [HFL.out, if_neg (by omega), HER.out]
  rw [HFL.out, hce, List.take_of_length_le (by omega)] at hfa
  have HFA := Lib.hid hfa
  clear hfa hce
  refine HFA.out.mono ?_
  rintro e w5 ⟨⟨v5, gs, rfl, hgs, hgf⟩, h5⟩
  obtain ⟨a5, c5, rfl⟩ := row_form hgs.1
  have HG := Lib.hid hgs
  have HGF := Lib.hid hgf
  have HW5 := Lib.hid (FRow_below HW.out h5)
  have HM5 := Lib.hid (HM4.out.below h5 (Nat.le_refl _))
  have HP5 := Lib.hid (HP4.out.below h5 (Nat.le_refl _))
  have HB5 := Lib.hid (HB4.out.trans (h5.mono (by omega)))
  have hs5 := h5.size
  obtain ⟨ng, hng⟩ : ∃ ng, ng = gs.length := ⟨_, rfl⟩
  have HNG := Lib.hid hng
  rw [← hng] at HG ⊢
  clear hgs hgf h5 hng
  go_wp2_with fail
  have hfa := all_any gm 0 cm pl _ (BOwn_win HM5.out).1 (by omega) (by omega)
  rw [HFL.out, HER.out] at hfa
  have HFA := Lib.hid hfa
  clear hfa
  refine HFA.out.mono ?_
  rintro e w6 ⟨⟨v6, al, rfl, hal, haf⟩, h6⟩
  obtain ⟨a6, c6, rfl⟩ := row_form hal.1
  have HA := Lib.hid hal
  have HAF := Lib.hid haf
  have HG6 := Lib.hid (FRow_below HG.out h6)
  have HW6 := Lib.hid (FRow_below HW5.out h6)
  have HM6 := Lib.hid (HM5.out.below h6 (Nat.le_refl _))
  have HP6 := Lib.hid (HP5.out.below h6 (Nat.le_refl _))
  have HB6 := Lib.hid (HB5.out.trans (h6.mono (by omega)))
  have hs6 := h6.size
  have han : al.length ≤ 166 := by have h := congrArg List.length haf; simp at h; omega
  obtain ⟨na, hna⟩ : ∃ na, na = al.length := ⟨_, rfl⟩
  have HNA := Lib.hid hna
  rw [← hna] at HA han ⊢
  clear hal haf h6 hna
  go_wp2_with fail
  go_loopw [12, 50] (fun vo i wr => ∃ k : Nat, k ≤ na ∧ i = .int .i64 k ∧ wr.ownsRow w6.heap.size 43 2 vo k ((al.take k).flatMap El.cells) ∧ Below w6.heap.size w6 wr) (fun _ i _ => na - (intOf i).toNat)
  case atStart => exact ⟨0, Nat.zero_le _, rfl, by simpa using World.ownsRow_nil _ _ _ _, Below.refl _ _⟩
  case round =>
    obtain ⟨k, hk, rfl, hown, hbr⟩ := hrel
    obtain ⟨ao, co, rfl⟩ := row_form hown
    have HO := Lib.hid hown
    have HBR := Lib.hid hbr
    have hsr := hbr.size
    have HAr := Lib.hid (FRow_below HA.out hbr)
    clear hown hbr
    by_cases hlt : k < na
    · obtain ⟨f, hf⟩ : ∃ f, al[k]? = some f := ⟨al[k]'(by have := HNA.out; omega), List.getElem?_eq_getElem _⟩
      obtain ⟨g, rfl⟩ : ∃ g, a6 = some ⟨g, 0, none⟩ := by
        rcases FRow_form HAr.out with ⟨h, _⟩ | ⟨g, c, h⟩
        · injection h with _ h _; omega
        · injection h with h; exact ⟨g, h⟩
      obtain ⟨xi, xv, xl, xe⟩ := f
      have hmem := List.mem_of_getElem? hf
      have hxm : xi < 256 ∧ BOwn w5.heap.size wr xv xl := HAr.out.2 _ hmem
      obtain ⟨xa, xc, rfl⟩ := BOwn_form hxm.2
      have hc := FRow_cells HAr.out hf
      have c0 : wr.cell? ⟨g, k * 2, none⟩ = some (.int .u8 (xi : Int)) := hc.1
      have c1 : wr.cell? ⟨g, k * 2 + 1, none⟩ = some (.slice xa xl.length xc) := hc.2
      have hxl : xl.length ≤ 500 := by
        have h : ((xi, xl) : Nat × List Nat) ∈ fieldsOf pl := by
          rw [HFL.out, ← HAF.out]
          exact List.mem_map.2 ⟨_, hmem, rfl⟩
        have := fieldsOf_data h
        simp at this
        omega
      have HMEM := Lib.hid hmem
      have HF := Lib.hid hf
      have HNE := Lib.hid (show some wr.heap.size ≠ (Value.slice ao k co).ownBlock from fun e => by have := (HO.out.lt _ e.symm).2; omega)
      have HCL := Lib.hid (show ∀ j u, ([.int .u8 (xi : Int), .slice xa xl.length xc] : List Value)[j]? = some u → ((wr.alloc (.cells #[.int .u8 (xi : Int), .slice xa xl.length xc] 40)).alloc (.cells #[.int .u8 (xi : Int), .slice xa xl.length xc] 43)).cell? ((⟨wr.heap.size + 1, 0, none⟩ : Addr).add j) = some u by
        intro j u hu
        have h := cells_lit (wr.alloc (.cells #[.int .u8 (xi : Int), .slice xa xl.length xc] 40)) [.int .u8 (xi : Int), .slice xa xl.length xc] 43 j u hu
        rw [World.size_alloc] at h
        exact h)
      clear hc hxm hmem hf
      go_wp2_with (first | (at_builtin; refine wpList_append_own _ rfl _ _ 31 rfl w6.heap.size 43 i0 _ 2 32 Tryd.underlying31 hi hz0 hz1 hz2 rfl (by decide) _ _ _ rfl ((HO.out.alloc _).alloc _) ⟨wr.heap.size + 1, 0, none⟩ 1 1 [.int .u8 (xi : Int), .slice xa xl.length xc] rfl rfl HCL.out (by intro u hu; simp at hu; rcases hu with rfl | rfl <;> rfl) (by unfold maxLen; omega) (by omega) (by simp; omega) ?_; intro v7 w7 hown7 hgrow7 _; obtain ⟨g7, c7, rfl⟩ := ownsRow_succ hown7; have HO7 := Lib.hid hown7; have HGR7 := Lib.hid hgrow7; have HK7 := Lib.hid (((Bk.new wr 40 #[.int .u8 (xi : Int), .slice xa xl.length xc]).alloc (.cells #[.int .u8 (xi : Int), .slice xa xl.length xc] 43)).grown hgrow7 HNE.out); have k0 := HK7.out.cellv (i := 0) rfl; have k1 := HK7.out.cellv (i := 1) rfl; clear hown7 hgrow7) | fail)
      have hs7 : wr.heap.size + 2 ≤ w7.heap.size := by have := HGR7.out.size; simp at this; omega
      have HB7 := Lib.hid (show Below w6.heap.size w6 w7 from ((HBR.out.alloc hsr _).alloc (by simp; omega) _).grown HGR7.out (by simp; omega) (fun j hj => (HO.out.lt j hj).1))
      have HX7 := Lib.hid (show BOwn w5.heap.size w7 (.slice xa xl.length xc) xl from ((FRow_below HA.out HB7.out).2 _ HMEM.out).2)
      refine (fact_any w5.heap.size xi _ xl _ HX7.out (by omega) (HC.out.below (HB6.out.trans (HB7.out.mono (by omega))) HC.out.lt)).mono ?_
      rintro e w8 ⟨⟨cv, rv, rfl, h1, h2⟩, hb8⟩
      obtain ⟨ar, har⟩ : ∃ ar, actOf xi xl = ar := ⟨_, rfl⟩
      rw [har] at h1 h2 ⊢
      have HAC := Lib.hid har
      obtain ⟨⟨ak, acm, am, ab, aq, acs, arc⟩, ae⟩ := ar
      simp only [aval] at h1 h2 ⊢
      obtain ⟨ca, cc, rfl⟩ := BOwn_form h1
      obtain ⟨ra, rc, rfl⟩ := BOwn_form h2
      have H1 := Lib.hid h1
      have H2 := Lib.hid h2
      have hs8 := hb8.size
      have HB8 := Lib.hid hb8
      clear k0 k1
      have HK8 := Lib.hid (HK7.out.below hb8 (by omega))
      have HX8 := Lib.hid (HX7.out.below hb8 (Nat.le_refl _))
      have k0 := HK8.out.cellv (i := 0) rfl
      have k1 := HK8.out.cellv (i := 1) rfl
      have hlt8 : wr.heap.size < w8.heap.size := by omega
      clear h1 h2 hb8 har
      go_wp2_with fail
      refine (rof_any xi w5.heap.size (.slice xa xl.length xc) xl _ (HX8.out.below ((Below.refl w8.heap.size w8).alloc (Nat.le_refl _) _) (Nat.le_refl _)) (by omega)).mono ?_
      rintro e w9 ⟨⟨cv2, rv2, rfl, h3, h4⟩, hb9⟩
      rw [HAC.out] at h3 h4 ⊢
      simp only [aval] at h3 h4 ⊢
      obtain ⟨cb, ccb, rfl⟩ := BOwn_form h3
      obtain ⟨rb, rcb, rfl⟩ := BOwn_form h4
      have H3 := Lib.hid h3
      have H4 := Lib.hid h4
      have hs9 := hb9.size
      simp only [World.size_alloc] at hs9
      have HB9 := Lib.hid (((Below.refl w8.heap.size w8).alloc (Nat.le_refl _) _).trans (hb9.mono (by simp)))
      have HK9 := Lib.hid ((Bk.new w8 50 #[.int .i64 ak, .int .i64 acm, .int .i64 am, .bool ab, .int .u8 (aq : Int), .slice ca acs.length cc, .slice ra arc.length rc]).below hb9 (by simp))
      have H19 := Lib.hid (H1.out.below HB9.out (Nat.le_refl _))
      have H29 := Lib.hid (H2.out.below HB9.out (Nat.le_refl _))
      obtain ⟨d0, d1, d2, d3, d4, d5, d6⟩ := cells7 HK9.out
      have hlt9 : w8.heap.size < w9.heap.size := by omega
      clear h3 h4 hb9 k0 k1
      go_wp2_with fail
      have HBA := Lib.hid ((Below.refl w9.heap.size w9).alloc (Nat.le_refl _) (.cells #[.int .i64 ak, .int .i64 acm, .int .i64 am, .bool ab, .int .u8 (aq : Int), .slice cb acs.length ccb, .slice rb arc.length rcb] 26))
      refine (rsame_any ⟨ak, acm, am, ab, aq, acs, arc⟩ ⟨ak, acm, am, ab, aq, acs, arc⟩ _ _ _ _ _ (H19.out.row.below HBA.out (Nat.le_refl _)) (H29.out.row.below HBA.out (Nat.le_refl _)) (H3.out.row.below HBA.out (Nat.le_refl _)) (H4.out.row.below HBA.out (Nat.le_refl _))).mono ?_
      rintro e w10 ⟨rfl, hb10⟩
      rw [sameA_refl]
      have HB10 := Lib.hid (HB9.out.trans ((HBA.out.mono (by omega)).trans (hb10.mono (by simp; omega))))
      clear d0 d1 d2 d3 d4 d5 d6 hb10
      go_wp2_with fail
      have HB710 := Lib.hid (HB8.out.trans (HB10.out.mono hs8))
      refine ⟨⟨k + 1, by omega, by go_num, ?_, HB7.out.trans (HB710.out.mono (by omega))⟩, by simp [intOf]; omega⟩
      have hk7 := row_kept HO7.out ⟨HB710.out.os, HB710.out.tape, HB710.out.output, HB710.out.size, fun i hi _ => HB710.out.block i hi⟩ (row := none) (fun r e => by cases e)
      rw [List.take_add_one, HF.out, List.flatMap_append]
      simpa [El.cells] using hk7
    · obtain rfl : k = na := by omega
      have HT := Lib.hid (show FRow 43 w5.heap.size wr (.slice ao k co) al from ⟨by
        have h := HO.out
        rw [List.take_of_length_le (by have := HNA.out; omega)] at h
        rw [← HNA.out]
        exact row_lower h hs6, HAr.out.2⟩)
      have HGr := Lib.hid (FRow_below HG6.out HBR.out)
      have HWr := Lib.hid (FRow_below HW6.out HBR.out)
      have HMr := Lib.hid (HM6.out.below HBR.out (Nat.le_refl _))
      have HPr := Lib.hid (HP6.out.below HBR.out (Nat.le_refl _))
      have HBr := Lib.hid (HB6.out.trans (HBR.out.mono (by omega)))
      have hr := HR.out
      clear HO HAr HG6 HW6 HM6 HP6
      go_wp2_with fail
      have hfa := fields_any gm 0 cm (1 + r) pl _ (BOwn_win HMr.out).1 (by omega) (by omega) (by omega) (by omega)
      rw [HFL.out, show ((1 + r : Nat) : Int) = 1 + (r : Int) by omega] at hfa
      have HFA := Lib.hid hfa
      clear hfa hr
      refine HFA.out.mono ?_
      rintro e w8 ⟨⟨v8, fs, rfl, hfs, hff⟩, h8⟩
      obtain ⟨a8, c8, rfl⟩ := row_form hfs.1
      have HS := Lib.hid hfs
      have HSF := Lib.hid hff
      have HT8 := Lib.hid (FRow_below HT.out h8)
      have HG8 := Lib.hid (FRow_below HGr.out h8)
      have HW8 := Lib.hid (FRow_below HWr.out h8)
      have HM8 := Lib.hid (HMr.out.below h8 (Nat.le_refl _))
      have HP8 := Lib.hid (HPr.out.below h8 (Nat.le_refl _))
      have HB8 := Lib.hid (HBr.out.trans (h8.mono (by omega)))
      have hs8 := h8.size
      obtain ⟨ns, hns⟩ : ∃ ns, ns = fs.length := ⟨_, rfl⟩
      have HNS := Lib.hid hns
      rw [← hns] at HS ⊢
      obtain ⟨ce, hcec⟩ : ∃ ce, cutErr (1 + r) pl = ce := ⟨_, rfl⟩
      rw [hcec]
      clear hfs hff h8 hns HT HGr HWr HMr HPr hcec
      go_wp2_with fail
      have hfa := macts_any gm 0 cm pl _ (BOwn_win HM8.out).1 (by omega) (by omega) (HC.out.below HB8.out HC.out.lt)
      rw [HFL.out, HER.out] at hfa
      obtain ⟨ax, hax⟩ : ∃ ax, actsOf fl er = ax := ⟨_, rfl⟩
      obtain ⟨xs, xe⟩ := ax
      rw [hax] at hfa
      have HAX := Lib.hid hax
      have HFA := Lib.hid hfa
      clear hfa hax
      refine HFA.out.mono ?_
      rintro e w9 ⟨⟨v9, xas, rfl, hxa, hxf⟩, h9⟩
      obtain ⟨a9, c9, rfl⟩ := row_form hxa.1
      have HXA := Lib.hid hxa
      have HXF := Lib.hid (show xas.map AEl.a = xs from hxf)
      have HS9 := Lib.hid (FRow_below HS.out h9)
      have HT9 := Lib.hid (FRow_below HT8.out h9)
      have HG9 := Lib.hid (FRow_below HG8.out h9)
      have HW9 := Lib.hid (FRow_below HW8.out h9)
      have HM9 := Lib.hid (HM8.out.below h9 (Nat.le_refl _))
      have HP9 := Lib.hid (HP8.out.below h9 (Nat.le_refl _))
      have HB9 := Lib.hid (HB8.out.trans (h9.mono (by omega)))
      have hs9 := h9.size
      obtain ⟨nx, hnx⟩ : ∃ nx, nx = xas.length := ⟨_, rfl⟩
      have HNX := Lib.hid hnx
      rw [← hnx] at HXA ⊢
      clear hxa hxf h9 hnx HT8 HG8 HW8 HM8 HP8 HS
      go_wp2_with fail
      have hfa := racts_any _ _ pl _ HP9.out (by omega)
      rw [HFL.out, HER.out, HAX.out] at hfa
      have HFA := Lib.hid hfa
      clear hfa
      refine HFA.out.mono ?_
      rintro e w10 ⟨⟨v10, ybs, rfl, hyb, hyf⟩, h10⟩
      obtain ⟨a10, c10, rfl⟩ := row_form hyb.1
      have HYB := Lib.hid hyb
      have HYF := Lib.hid (show ybs.map AEl.a = xs from hyf)
      have HXA10 := Lib.hid (ARow_below HXA.out h10)
      have HS10 := Lib.hid (FRow_below HS9.out h10)
      have HT10 := Lib.hid (FRow_below HT9.out h10)
      have HG10 := Lib.hid (FRow_below HG9.out h10)
      have HW10 := Lib.hid (FRow_below HW9.out h10)
      have HM10 := Lib.hid (HM9.out.below h10 (Nat.le_refl _))
      have HB10 := Lib.hid (HB9.out.trans (h10.mono (by omega)))
      have hs10 := h10.size
      have hny : ybs.length = nx := by
        have h1 := congrArg List.length HXF.out
        have h2 := congrArg List.length HYF.out
        have := HNX.out
        simp at h1 h2
        omega
      rw [hny] at HYB ⊢
      have HNY := Lib.hid hny
      clear hyb hyf h10 HT9 HG9 HW9 HM9 HP9 HS9 HXA hny
      go_wp2_with fail
      refine (flip_any _ gm _ cm pl _ HM10.out).mono ?_
      rintro e w11 ⟨⟨vv, rfl⟩, hg11⟩
      have HXA11 := Lib.hid (ARow_far HXA10.out hg11 (by omega))
      have HYB11 := Lib.hid (ARow_far HYB.out hg11 (by omega))
      have HS11 := Lib.hid (FRow_far HS10.out hg11 (by omega))
      have HT11 := Lib.hid (FRow_far HT10.out hg11 (by omega))
      have HG11 := Lib.hid (FRow_far HG10.out hg11 (by omega))
      have HW11 := Lib.hid (FRow_far HW10.out hg11 (by omega))
      have HB11 := Lib.hid (below_gb HB10.out hg11 (Nat.le_refl _) (by omega))
      clear hg11 HXA10 HYB HS10 HT10 HG10 HW10 HM10
      go_wp2_with fail
      refine (lsame_any _ _ _ _ _ _ gs ws _ HG11.out HW11.out).mono ?_
      rintro e w12 ⟨rfl, n12, rfl⟩
      rw [decide_eq_true (show gs.map El.fd = ws.map El.fd from HGF.out.trans HWF.out.symm)]
      go_wp2_with fail
      refine (lsame_any _ _ _ _ _ _ al ws _ (FRow_drewN HT11.out n12) (FRow_drewN HW11.out n12)).mono ?_
      rintro e w13 ⟨rfl, n13, rfl⟩
      rw [decide_eq_true (show al.map El.fd = ws.map El.fd from HAF.out.trans HWF.out.symm)]
      have hnl := HNW.out
      obtain ⟨m, hm, hmn, hmr⟩ : ∃ m : Nat, min (nw : Int) (1 + (r : Int)) = (m : Int) ∧ m ≤ nw ∧ m = min nw (1 + r) := ⟨min nw (1 + r), by omega, by omega, rfl⟩
      have hcap := FRow_cap HW11.out
      have hmc : (m : Int) ≤ (c4 : Int) := by omega
      have HMR := Lib.hid hmr
      clear hmr hnl
      go_wp2_with fail
      have HS13 := Lib.hid (FRow_drewN HS11.out (n12 + n13))
      have HW13 := Lib.hid (FRow_take (FRow_drewN HW11.out (n12 + n13)) m (by have := HNW.out; omega))
      refine (lsame_any _ _ _ _ _ _ fs (ws.take m) _ HS13.out HW13.out).mono ?_
      rintro e w14 ⟨rfl, n14, rfl⟩
      rw [decide_eq_true (show fs.map El.fd = (ws.take m).map El.fd by
        rw [List.map_take, HWF.out, HSF.out, HMR.out]
        have hl : nw = fl.length := by have h := congrArg List.length HWF.out; have := HNW.out; simp at h; omega
        rcases Nat.le_total (1 + r) nw with h | h
        · rw [Nat.min_eq_right h]
        · rw [Nat.min_eq_left h, List.take_of_length_le (by omega), List.take_of_length_le (by omega)])]
      have hnx9 : nx ≤ 9223372036854775807 := by
        rcases HXA11.out.1.2 with ⟨h1, h2⟩ | ⟨g, cap, cur, h1, _, _, h2, h3, _⟩
        · have := HNX.out; omega
        · have := HNX.out; unfold maxLen at h3; omega
      clear hm hmc hmn hcap
      go_wp2_with fail
      go_loopw [145] (fun i wr => ∃ k : Nat, k ≤ nx ∧ i = .int .i64 k ∧ Below w11.heap.size w11 wr) (fun i _ => nx - (intOf i).toNat)
      case atStart => exact ⟨0, Nat.zero_le _, rfl, bl_drewN (Below.refl _ _) _⟩
      case round =>
        obtain ⟨j, hj, rfl, hbr⟩ := hrel
        have HBr2 := Lib.hid hbr
        have hsr2 := hbr.size
        have HXr := Lib.hid (ARow_below HXA11.out hbr)
        have HYr := Lib.hid (ARow_below HYB11.out hbr)
        clear hbr
        by_cases hlt : j < nx
        · obtain ⟨p, hp⟩ : ∃ p, xas[j]? = some p := ⟨xas[j]'(by have := HNX.out; omega), List.getElem?_eq_getElem _⟩
          obtain ⟨q, hq⟩ : ∃ q, ybs[j]? = some q := ⟨ybs[j]'(by have := HNY.out; omega), List.getElem?_eq_getElem _⟩
          have hpq : q.a = p.a := by
            have h1 := congrArg (fun z : List A => z[j]?) (HXF.out.trans HYF.out.symm)
            simp only [List.getElem?_map, hp, hq, Option.map_some, Option.some.injEq] at h1
            exact h1.symm
          have hpG := HXr.out.2 p (List.mem_of_getElem? hp)
          have hqG := HYr.out.2 q (List.mem_of_getElem? hq)
          obtain ⟨g1, rfl⟩ : ∃ g1, a9 = some ⟨g1, 0, none⟩ := by
            rcases HXr.out.1.2 with ⟨h, h2⟩ | ⟨g, cap, cur, h, _⟩
            · have := HNX.out; omega
            · injection h with h; exact ⟨g, h⟩
          obtain ⟨g2, rfl⟩ : ∃ g2, a10 = some ⟨g2, 0, none⟩ := by
            rcases HYr.out.1.2 with ⟨h, h2⟩ | ⟨g, cap, cur, h, _⟩
            · have := HNY.out; omega
            · injection h with h; exact ⟨g, h⟩
          have d0 := ARow_cell HXr.out hp (j := 0) (by decide)
          have d1 := ARow_cell HXr.out hp (j := 1) (by decide)
          have d2 := ARow_cell HXr.out hp (j := 2) (by decide)
          have d3 := ARow_cell HXr.out hp (j := 3) (by decide)
          have d4 := ARow_cell HXr.out hp (j := 4) (by decide)
          have d5 := ARow_cell HXr.out hp (j := 5) (by decide)
          have d6 := ARow_cell HXr.out hp (j := 6) (by decide)
          have e0 := ARow_cell HYr.out hq (j := 0) (by decide)
          have e1 := ARow_cell HYr.out hq (j := 1) (by decide)
          have e2 := ARow_cell HYr.out hq (j := 2) (by decide)
          have e3 := ARow_cell HYr.out hq (j := 3) (by decide)
          have e4 := ARow_cell HYr.out hq (j := 4) (by decide)
          have e5 := ARow_cell HYr.out hq (j := 5) (by decide)
          have e6 := ARow_cell HYr.out hq (j := 6) (by decide)
          obtain ⟨⟨pk, pc, pm, pb, pq, pcs, prc⟩, pv, pu⟩ := p
          obtain ⟨qa, qv, qu⟩ := q
          change qa = _ at hpq
          subst hpq
          simp only [AEl.cells, List.getElem?_cons_zero, List.getElem?_cons_succ, Nat.add_zero] at d0 d1 d2 d3 d4 d5 d6 e0 e1 e2 e3 e4 e5 e6
          have hsame := fun W (h1 : BRow W pv pcs) (h2 : BRow W pu prc) (h3 : BRow W qv pcs) (h4 : BRow W qu prc) => rsame_any ⟨pk, pc, pm, pb, pq, pcs, prc⟩ ⟨pk, pc, pm, pb, pq, pcs, prc⟩ pv pu qv qu W h1 h2 h3 h4
          rw [sameA_refl] at hsame
          have HSA := Lib.hid hsame
          have HPG := Lib.hid hpG
          have HQG := Lib.hid hqG
          clear hsame hpG hqG hp hq
          go_wp2_with fail
          go_region_with (first | (go_at_call 23; refine (HSA.out wr.drew (show BRow wr.drew _ _ from HPG.out.1.row) (show BRow wr.drew _ _ from HPG.out.2.row) (show BRow wr.drew _ _ from HQG.out.1.row) (show BRow wr.drew _ _ from HQG.out.2.row)).mono ?_; rintro e w16 ⟨rfl, hb16⟩; have HB16 := Lib.hid hb16; clear hb16) | fail)
          all_goals
            clear d0 d1 d2 d3 d4 d5 d6 e0 e1 e2 e3 e4 e5 e6
            go_wp2_with fail
            exact ⟨⟨j + 1, by omega, by go_num, (bl_drewN HBr2.out 1).trans (HB16.out.mono (by simp; omega))⟩, by simp [intOf]; omega⟩
        · go_wp2_with fail
          go_ret
          exact ⟨rfl, HB11.out.trans (HBr2.out.mono (by have := HB11.out.size; omega))⟩

theorem sfieldReads_any (a : Option Addr) (len cap : Nat) (zs : List Int) (x : Int) (w : World) (hr : IsRow .u8 w a len cap zs) (hx : (Lit.int .u8 x).wf = true) (hc : Cmds w) :
    Calls Tryd.prog 5 #[.slice a len cap, .int .u8 x] w fun e w' => e = .returned (.bool true) ∧ Below w.heap.size w w' := by
  obtain ⟨m, hm, rfl⟩ := byte_nat5 hx
  obtain ⟨l, _, hl⟩ := hr.bytes
  exact sfieldReads_walk m hm _ l w hl hc
end Go.Proofs.YtcibhchbgendaaaDoor.Sf
