/- The walk of the law QueryReads. -/
import Derived.Test.YtcibhchbgendaabQyReadsPure
import Derived.Test.YtcibhchbgendaabQyWlkParses
namespace Go.Proofs.Ytcibhchbgendaab.Qy
open Go Go.RowKit Go.Proofs.Ytcibhchbgendaab.By Go.Proofs.Ytcibhchbgendaab.Sf Go.Proofs.Ytcibhchbgendaab.Pg
attribute [local go_sem ↓] Go.wp_at_zero Go.wp_at_succ

theorem find_size {o : Option (List Nat)} {a b : Nat} (h : o.map (fun d => (decide (7 ≤ d.length), at2 d 5, at2 d 3)) = some (true, a, b)) (e : Ending) (he : SzEnd o e) : e = .returned (.tuple #[.int .i64 (a : Int), .int .i64 (b : Int), .bool true]) := by
  cases o with
  | none => cases h
  | some d =>
    injection h with h
    injection h with h1 h
    injection h with h2 h3
    rcases he with ⟨d', h4, _, h5⟩ | ⟨h4, _⟩
    · cases h4; rw [h5, h2, h3]
    · have := h4 d rfl; have := of_decide_eq_true h1; omega
theorem find_num {o : Option (List Nat)} {a : Nat} (h : o.map (fun d => (decide (15 ≤ d.length), at2 d 13)) = some (true, a)) (e : Ending) (he : NmEnd o e) : e = .returned (.tuple #[.int .i64 (a : Int), .bool true]) := by
  cases o with
  | none => cases h
  | some d =>
    injection h with h
    injection h with h1 h2
    rcases he with ⟨d', h4, _, h5⟩ | ⟨h4, _⟩
    · cases h4; rw [h5, h2]
    · have := h4 d rfl; have := of_decide_eq_true h1; omega

theorem own_some2 {B : Nat} {w : World} {p : Option Addr} {n c a : Nat} {l : List Nat} (h : BOwn B w (.slice p (n + 1) c) (a :: l)) : ∃ g c', Value.slice p (n + 1) c = .slice (some ⟨g, 0, none⟩) (n + 1) c' ∧ B ≤ g ∧ g < w.heap.size := by
  rcases h.lt with h1 | ⟨g, n', c', h1, h2, h3⟩
  · injection h1 with _ h1 _; simp at h1
  · injection h1 with e1 e2 e3
    subst e1
    exact ⟨g, c, rfl, h2, h3⟩
set_option maxHeartbeats 8000000 in
set_option maxRecDepth 100000 in
theorem queryReads_walk (t n : Nat) (ht : t < 256) (hn : n < 256) (x : Value) (l : List Nat) (w : World) (hx : BRow w x l) :
    Calls Try.prog 6 #[.int .u8 t, .int .u8 n, x] w fun e w' => e = .returned (.bool true) ∧ Below w.heap.size w w' := by
  have HX := Lib.hid hx
  clear hx
  obtain ⟨r, hr, hr4⟩ : ∃ r : Nat, (t : Int) % 4 = r ∧ r < 4 := ⟨t % 4, by omega, by omega⟩
  obtain ⟨m, hm0⟩ : ∃ m, m = 2 + r := ⟨_, rfl⟩
  have HM := Lib.hid (show m = 2 ∨ m = 3 ∨ m = 4 ∨ m = 5 by omega)
  have HM0 := Lib.hid hm0
  clear hm0
  have HR := Lib.hid hr
  clear hr
  go_enter Try.func6, Try.ntmps6
  go_wp2_with fail
  refine (awake_any _).mono ?_
  rintro e w1 ⟨rfl, h1⟩
  have HB1 := Lib.hid h1
  have hs1 := h1.size
  clear h1
  have hr := HR.out
  go_wp2_with fail
  refine (qpick_any n hn _).mono ?_
  rintro e w2 ⟨p, k, rfl, hk, hp, h2⟩
  have HK := Lib.hid hk
  have HP := Lib.hid hp
  have HB2 := Lib.hid (HB1.out.trans (h2.mono hs1))
  have hk2 : k ≤ 2000 := by unfold KK at hk; omega
  clear hk hp h2 hr
  have hmr : (2 : Int) + (r : Int) = (m : Int) := by have := HM0.out; omega
  try rw [hmr]
  go_wp2_with fail
  refine (rmodel_any m HM.out _).mono ?_
  rintro e w3 ⟨rfl, h3⟩
  obtain ⟨R, hR⟩ : ∃ R, R = rowsOf m := ⟨_, rfl⟩
  obtain ⟨C, hC⟩ : ∃ C, C = colsOf m := ⟨_, rfl⟩
  rw [← hR, ← hC]
  have HF := Lib.hid (all_find m k HM.out HK.out)
  rw [← hR, ← hC] at HF
  have HB3 := Lib.hid (HB2.out.trans (h3.mono HB2.out.size))
  have HP3 := Lib.hid (PgP_up HP.out h3)
  have HBX := Lib.hid (Bk.new w3 45 #[.int .i64 (R : Int), .int .i64 (C : Int)])
  clear hR hC h3
  go_wp2_with fail
  have HBA := Lib.hid ((Below.refl w3.heap.size w3).alloc (Nat.le_refl _) (.cells #[.int .i64 (R : Int), .int .i64 (C : Int)] 45))
  refine (qall_any m k HM.out hk2 p _ (PgP_up HP3.out HBA.out)).mono ?_
  rintro e w4 ⟨⟨p4, c4, rfl, ho⟩, hb⟩
  have hl4 := (all_len m k).1
  have HPA := Lib.hid (all_parse m k)
  obtain ⟨L, hL⟩ : ∃ L, allOf m k = L := ⟨_, rfl⟩
  rw [hL] at ho HF HPA hl4 ⊢
  have HO := Lib.hid ho
  have HB34 := Lib.hid (HBA.out.trans (hb.mono (by simp)))
  have HB4 := Lib.hid (HB3.out.trans (HB34.out.mono HB3.out.size))
  have HBX4 := Lib.hid (HBX.out.below hb (by simp))
  have HP4 := Lib.hid (PgP_up HP3.out HB34.out)
  obtain ⟨nl, hnl⟩ : ∃ nl, nl = L.length := ⟨_, rfl⟩
  rw [← hnl] at HO ⊢
  clear ho hb hL hnl
  go_wp2_with fail
  have hpa := parse_any _ _ L _ HO.out (by omega)
  rw [HPA.out] at hpa
  have HPR := Lib.hid hpa
  clear hpa
  refine HPR.out.mono ?_
  rintro e w5 ⟨⟨p5, c5, rfl, ho⟩, hb⟩
  change BOwn _ w5 (.slice p5 7 c5) codes7 at ho
  have HC5 := Lib.hid ho
  have HO5 := Lib.hid (HO.out.below hb (Nat.le_refl _))
  have HB5 := Lib.hid (HB4.out.trans (hb.mono HB4.out.size))
  have HBX5 := Lib.hid (HBX4.out.below hb HBX4.out.lt)
  have HP5 := Lib.hid (PgP_up HP4.out hb)
  clear ho hb
  go_wp2_with fail
  refine (size_any _ _ L _ HO5.out (by omega)).mono ?_
  rintro e w6 ⟨he, hb⟩
  obtain rfl := find_size HF.out.1 e he
  have HC6 := Lib.hid (HC5.out.below hb (Nat.le_refl _))
  have HO6 := Lib.hid (HO5.out.below hb (Nat.le_refl _))
  have HB6 := Lib.hid (HB5.out.trans (hb.mono HB5.out.size))
  have HBX6 := Lib.hid (HBX5.out.below hb HBX5.out.lt)
  have HP6 := Lib.hid (PgP_up HP5.out hb)
  clear he hb
  go_wp2_with fail
  refine (pageno_any _ _ L _ HO6.out (by omega)).mono ?_
  rintro e w7 ⟨he, hb⟩
  obtain rfl := find_num HF.out.2 e he
  have HC7 := Lib.hid (HC6.out.below hb (Nat.le_refl _))
  have HB7 := Lib.hid (HB6.out.trans (hb.mono HB6.out.size))
  have HBX7 := Lib.hid (HBX6.out.below hb HBX6.out.lt)
  have HP7 := Lib.hid (PgP_up HP6.out hb)
  clear he hb
  go_wp2_with fail
  refine (rcodes_any _).mono ?_
  rintro e w8 ⟨⟨p8, c8, rfl, ho⟩, hb⟩
  have HD8 := Lib.hid ho
  have HC8 := Lib.hid (HC7.out.below hb (Nat.le_refl _))
  have HB8 := Lib.hid (HB7.out.trans (hb.mono HB7.out.size))
  have HBX8 := Lib.hid (HBX7.out.below hb HBX7.out.lt)
  have HP8 := Lib.hid (PgP_up HP7.out hb)
  clear ho hb
  go_wp2_with fail
  refine (same_any _ _ codes7 codes7 _ HC8.out.row HD8.out.row).mono ?_
  rintro e w9 ⟨rfl, rfl⟩
  rw [decide_eq_true rfl]
  have b0 : w9.cell? ⟨w3.heap.size, 0, none⟩ = some (.int .i64 (R : Int)) := HBX8.out.cellv (i := 0) rfl
  have b1 : w9.cell? ⟨w3.heap.size, 1, none⟩ = some (.int .i64 (C : Int)) := HBX8.out.cellv (i := 1) rfl
  have hneR : ((R : Int) != R) = false := bne_self_eq_false' _
  have hneC : ((C : Int) != C) = false := bne_self_eq_false' _
  have hneK : ((k : Int) != k) = false := bne_self_eq_false' _
  go_wp2_with fail
  clear b0 b1
  refine (cut_any x l 20 (by decide) _ (HX.out.below HB8.out (Nat.le_refl _))).mono ?_
  rintro e w10 ⟨y, rfl, hy, hyn, hb⟩
  obtain ⟨ap, cp, rfl⟩ := BOwn_form hy
  obtain ⟨ql, hql⟩ : ∃ ql, l.take 20 = ql := ⟨_, rfl⟩
  rw [hql] at hy ⊢
  have HQ := Lib.hid hy
  have HB10 := Lib.hid (HB8.out.trans (hb.mono HB8.out.size))
  have HP10 := Lib.hid (PgP_up HP8.out hb)
  clear hy hyn hb hql
  go_wp2_with fail
  refine (list_any _ ql m k HM.out hk2 p _ HP10.out HQ.out.row).mono ?_
  rintro e w11 ⟨⟨p11, c11, rfl, ho⟩, hb⟩
  have HB11 := Lib.hid (HB10.out.trans (hb.mono HB10.out.size))
  have HPS := Lib.hid (some_parse (askOf ql) m k (ask_mem ql))
  have hfw := few_iff (askOf ql) m k (ask_mem ql)
  have hfl : (someOf (askOf ql) m k).length ≤ 100000 := by
    have h := catR_len (askOf ql) m k (ask_mem ql)
    have h7 : (askOf ql).length ≤ 7 := List.length_filter_le _ _
    by_cases h0 : askOf ql = []
    · have e : someOf [] m k = [136, 0, 4, 129, 255] := rfl
      rw [h0, e]
      decide
    · have e : someOf (askOf ql) m k = catR (askOf ql) m k := by
        unfold someOf catR
        rw [if_neg h0]
      rw [e]; omega
  obtain ⟨FW, hFW⟩ : ∃ FW, someOf (askOf ql) m k = FW := ⟨_, rfl⟩
  rw [hFW] at ho hfw hfl HPS ⊢
  obtain ⟨c0, rs, hc0, hc256, hcf⟩ := hfw
  have HFO := Lib.hid ho
  have hes : (parseOf FW).2 = 0 := by rw [HPS.out]
  have hpe : parseOf FW = (c0 :: rs, 0) := by rw [← hc0, ← hes]
  have HPE := Lib.hid hpe
  have HCF := Lib.hid hcf
  obtain ⟨nf, hnf⟩ : ∃ nf, nf = FW.length := ⟨_, rfl⟩
  rw [← hnf] at HFO ⊢
  clear ho hb hFW hc0 hes hpe hcf hnf HPS
  go_wp2_with fail
  have hpa := parse_any _ _ FW _ HFO.out hfl
  rw [HPE.out] at hpa
  have HPR := Lib.hid hpa
  clear hpa
  refine HPR.out.mono ?_
  rintro e w12 ⟨⟨p12, c12, rfl, ho⟩, hb⟩
  change BOwn _ w12 (.slice p12 (rs.length + 1) c12) (c0 :: rs) at ho
  have HB12 := Lib.hid (HB11.out.trans (hb.mono HB11.out.size))
  have HFO12 := Lib.hid (HFO.out.below hb (Nat.le_refl _))
  obtain ⟨g12, cc, hf, _, _⟩ := own_some2 ho
  injection hf with hf1 _ hf3
  subst hf1 hf3
  have hcell : w12.cell? ⟨g12, 0, none⟩ = some (.int .u8 (c0 : Int)) := BOwn_cell ho (i := 0) rfl
  have HOO := Lib.hid ho
  clear ho hb
  obtain ⟨nr, hnr⟩ : ∃ nr, nr = rs.length := ⟨_, rfl⟩
  simp only [List.length_cons, ← hnr]
  clear hnr
  have HSE := Lib.hid (fun (W : World) (a : Value) (h1 : BRow W a FW) (b : Value) (h2 : BRow W b [136, 0, 4, 129, 255]) => same_any a b FW [136, 0, 4, 129, 255] W h1 h2)
  have hce : ((c0 : Int) == 255) = decide (c0 = 255) := by
    by_cases h : c0 = 255
    · subst h; rfl
    · rw [decide_eq_false h]; exact beq_eq_false_iff_ne.2 (by omega)
  rw [HCF.out] at hce
  obtain ⟨bb, hbb⟩ : ∃ bb, decide (FW = [136, 0, 4, 129, 255]) = bb := ⟨_, rfl⟩
  rw [hbb] at hce HSE
  clear hbb
  have hge : decide ((1 : Int) ≤ (nr : Int) + 1) = true := decide_eq_true (by omega)
  have hix : (0 : Int) < (nr : Int) + 1 := by omega
  have hS0 : w12.drew.cell? ⟨g12, 0, none⟩ = some (.int .u8 (c0 : Int)) := hcell
  have HLB := Lib.hid (own_lit w12.drew [136, 0, 4, 129, 255] (by decide) (by decide))
  have HFL := Lib.hid (show BRow (w12.drew.alloc (.cells ([136, 0, 4, 129, 255].map bv).toArray 5)) _ FW from (show BOwn _ w12.drew _ FW from HFO12.out).row.below ((Below.refl w12.drew.heap.size w12.drew).alloc (Nat.le_refl _) _) (Nat.le_refl _))
  have HBF := Lib.hid (HB12.out.drew.alloc HB12.out.size (.cells ([136, 0, 4, 129, 255].map bv).toArray 5))
  cases bb
  all_goals
    go_wp2_with fail
    go_region_held3 (fun W' => W'.cell? ⟨g12, 0, none⟩ = some (.int .u8 (c0 : Int))) (first | assumption | exact (World.cell?_alloc_lt _ _ _ (World.block_lt_of_cell? _ _ hS0)).trans hS0)
      (first
      | (go_at_call 28; refine (HSE.out _ _ HFL.out _ HLB.out.row).mono ?_; rintro e w13 ⟨rfl, rfl⟩)
      | fail)
    go_wp2_with fail
    go_ret
    exact ⟨rfl, HBF.out⟩

theorem byte_natq {x : Int} (h : (Lit.int .u8 x).wf = true) : ∃ n : Nat, n < 256 ∧ x = n := by
  simp only [Lit.wf, show IntKind.u8.min = 0 from rfl, show IntKind.u8.max = 255 from rfl] at h
  simp only [Bool.and_eq_true, decide_eq_true_eq] at h
  exact ⟨x.toNat, by omega, by omega⟩
theorem queryReads_any (x y : Int) (a : Option Addr) (len cap : Nat) (zs : List Int) (w : World) (hx : (Lit.int .u8 x).wf = true) (hy : (Lit.int .u8 y).wf = true) (hr : IsRow .u8 w a len cap zs) :
    Calls Try.prog 6 #[.int .u8 x, .int .u8 y, .slice a len cap] w fun e w' => e = .returned (.bool true) ∧ Below w.heap.size w w' := by
  obtain ⟨n, hn, rfl⟩ := byte_natq hx
  obtain ⟨m, hm, rfl⟩ := byte_natq hy
  obtain ⟨l, _, hl⟩ := hr.bytes
  exact queryReads_walk n m hn hm _ l w hl
end Go.Proofs.Ytcibhchbgendaab.Qy
