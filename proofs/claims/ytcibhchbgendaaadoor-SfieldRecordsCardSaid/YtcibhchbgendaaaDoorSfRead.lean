/- The walks of sfield's reads, erases, sets, parts, outs and of (sfield.Field).Act: what a field asks for. -/
import Derived.Test.YtcibhchbgendaaaDoorSfCmd
import Derived.Test.YtcibhchbgendaaaDoorSfReads
import Derived.Deep.QuietTactic
import Derived.BigQuiet
import Derived.Deep.RegionHeld3
namespace Go.Proofs.YtcibhchbgendaaaDoor.Sf
open Go Go.RowKit Go.Proofs.YtcibhchbgendaaaDoor.By

set_option maxHeartbeats 4000000 in
set_option maxRecDepth 100000 in
theorem reads_any (B : Nat) (v : Value) (l : List Nat) (w : World) (hv : BOwn B w v l) (h47 : l.length ≤ 140737488351232) (hc : Cmds w) :
    Calls Tryd.prog 40 #[v] w fun e w' => ActEnd (readsOf l) w.heap.size e w' ∧ Below w.heap.size w w' := by
  have hmax : l.length ≤ 9223372036854775807 := hv.row.len
  have HC := Lib.hid hc
  clear hc
  by_cases h2 : l.length < 2
  · have HR := Lib.hid (show readsOf l = (A0, 4) by unfold readsOf; rw [if_pos h2])
    obtain ⟨a, cap, rfl⟩ := BOwn_form hv
    obtain ⟨n, hn⟩ : ∃ n, n = l.length := ⟨_, rfl⟩
    rw [← hn] at h2 ⊢
    have hn1 : decide ((n : Int) < 2) = true := decide_eq_true (by omega)
    clear hv hn h2 hmax h47
    go_enter Tryd.func40, Tryd.ntmps40
    go_wp2
    exact bodyPost_ret (v := .tuple #[.agg #[.int .i64 0, .int .i64 0, .int .i64 0, .bool false, .int .u8 0, .slice none 0 0, .slice none 0 0], .int .i64 4]) (by simp [results, Tryd.results40, go_sem]) rfl ⟨by rw [HR.out]; exact ActEnd_of _ _ _ _ _ _ BOwn_nil BOwn_nil, ((Below.refl _ _).alloc (Nat.le_refl _) _)⟩
  · obtain ⟨x0, x1, r, rfl⟩ : ∃ x0 x1 r, l = x0 :: x1 :: r := by
      match l, h2 with
      | [], h => simp at h
      | [_], h => simp at h
      | x0 :: x1 :: r, _ => exact ⟨x0, x1, r, rfl⟩
    obtain ⟨g, cap, rfl, hc1⟩ := BOwn_at hv (i := 1) (x := x1) rfl
    have hc0 := BOwn_cell hv (i := 0) (x := x0) rfl
    have hz := cell_lt hc0
    have hb1 : x1 < 256 := hv.1 x1 (by simp)
    have HVV := Lib.hid hv
    obtain ⟨n, hn⟩ : ∃ n, n = (x0 :: x1 :: r).length := ⟨_, rfl⟩
    have hn2 : 2 ≤ n := by rw [hn]; simp
    have HNL := Lib.hid (show r.length + 2 = n by rw [hn]; rfl)
    rw [← hn] at hmax HVV ⊢
    clear hv hn h2
    have hd2 : decide ((n : Int) < 2) = false := decide_eq_false (by omega)
    have hcr := cmdOf_range x1
    have hl47 : n ≤ 140737488351232 := by have h9 := HNL.out; simp at h47; omega
    clear h47
    have hd3 : decide (3 ≤ (n : Int)) = decide (3 ≤ n) := by by_cases h : 3 ≤ n <;> simp [h] <;> omega
    have hq2 : ((n : Int) == 2) = decide (n = 2) := by by_cases h : n = 2 <;> simp [h] <;> omega
    have HU := Lib.hid (show readsOf (x0 :: x1 :: r) = (if x1 = 2 then (if n = 2 then partOf aQuery x0 255 else (A0, 4)) else if x1 = 3 then (if 3 ≤ n then (if reqOk ((x0 :: x1 :: r).getD 2 0) then partOf (aList ((x0 :: x1 :: r).getD 2 0) ((x0 :: x1 :: r).drop 3)) x0 255 else (A0, 4)) else (A0, 4)) else if isRead (cmdOf x1) then (if n = 2 then partOf (aRead (cmdOf x1)) x0 0 else (A0, 4)) else (A0, 4)) by
      have e : (x0 :: x1 :: r).length = n := by rw [← HNL.out]; rfl
      unfold readsOf
      rw [e, if_neg (by omega)]
      rfl)
    by_cases e2 : x1 = 2
    · subst e2
      have HV := Lib.hid (show cmdVal 2 = .tuple #[.int .i64 5, .bool true] from rfl)
      have HRD := Lib.hid (show decide (isRead 5) = true from rfl)
      by_cases hn : n = 2
      · have hqn : ((n : Int) == 2) = true := by rw [hq2]; exact decide_eq_true hn
        by_cases hx0 : x0 = 255
        · subst hx0
          have HR := Lib.hid (show readsOf (255 :: 2 :: r) = (aQuery, 0) by rw [HU.out, if_pos rfl, if_pos hn, partOf_eq rfl])
          clear hn hd3 hq2 hcr
          go_enter Tryd.func40, Tryd.ntmps40
          go_wp2_with fail
          refine (command_any _ hb1 _ (HC.out.below (((Below.refl _ _).alloc (Nat.le_refl _) _).alloc (by simp) _) HC.out.lt)).mono ?_
          rintro e w1 ⟨rfl, h1⟩
          rw [HV.out]
          have H1 := Lib.hid ((((Below.refl _ _).alloc (Nat.le_refl _) _).alloc (by simp) _).trans (h1.mono (by simp only [World.size_alloc]; omega)))
          have HB1 := Lib.hid (show Bk w1 w.heap.size 50 #[.int .i64 0, .int .i64 0, .int .i64 0, .bool false, .int .u8 0, .slice none 0 0, .slice none 0 0] from ((Bk.new w _ _).alloc _).below h1 (by simp only [World.size_alloc]; omega))
          have HA1 := Lib.hid (show Bk w1 (w.heap.size + 1) 50 #[.int .i64 0, .int .i64 0, .int .i64 0, .bool false, .int .u8 0, .slice none 0 0, .slice none 0 0] from by
            have h := Bk.new (w.alloc (.cells #[.int .i64 0, .int .i64 0, .int .i64 0, .bool false, .int .u8 0, .slice none 0 0, .slice none 0 0] 50)) 50 #[.int .i64 0, .int .i64 0, .int .i64 0, .bool false, .int .u8 0, .slice none 0 0, .slice none 0 0]
            simp only [World.size_alloc] at h
            exact h.below h1 (by simp only [World.size_alloc]; omega))
          have hcg : ∀ i, w1.cell? ⟨g, i, none⟩ = w.cell? ⟨g, i, none⟩ := fun i => (h1.cell (p := ⟨g, i, none⟩) (by simp only [World.size_alloc]; omega)).trans ((World.cell?_alloc_lt _ _ _ (by simp only [World.size_alloc]; omega)).trans (World.cell?_alloc_lt _ _ _ hz))
          have hsz1 : w.heap.size + 1 < w1.heap.size := by have := h1.size; simp at this; omega
          obtain ⟨hcc, hff⟩ := bcell h1
          clear h1
          go_wp2_with (first | (go_at_call 58; refine (reads_cmd _ _).mono ?_; rintro e w' ⟨rfl, rfl⟩; rw [HRD.out]))
          exact bodyPost_ret (v := .tuple #[.agg #[.int .i64 1, .int .i64 0, .int .i64 0, .bool false, .int .u8 0, .slice none 0 0, .slice none 0 0], .int .i64 0]) (results_struct_tmp (p := 2) (q := 3) rfl _ _ w.heap.size 50 _ _ _ rfl (Bk_fill7 (Bk_far7 HB1.out (by omega) _ _ _ _ _ _ _) _ _ _ _ _ _ _) Tryd.underlying50 rfl (by kernel_rfl)) rfl ⟨by rw [HR.out]; exact ActEnd_of _ _ _ _ _ _ BOwn_nil BOwn_nil, below_fill7 (below_fill7 H1.out (by omega) _ _ _ _ _ _ _) (Nat.le_refl _) _ _ _ _ _ _ _⟩
        · have HR := Lib.hid (show readsOf (x0 :: 2 :: r) = (A0, 1) by rw [HU.out, if_pos rfl, if_pos hn, partOf_ne hx0])
          have hq0 : ((x0 : Int) != 255) = true := bne_iff_ne.2 (by omega)
          clear hn hd3 hq2 hcr hx0
          go_enter Tryd.func40, Tryd.ntmps40
          go_wp2_with fail
          refine (command_any _ hb1 _ (HC.out.below (((Below.refl _ _).alloc (Nat.le_refl _) _).alloc (by simp) _) HC.out.lt)).mono ?_
          rintro e w1 ⟨rfl, h1⟩
          rw [HV.out]
          have H1 := Lib.hid ((((Below.refl _ _).alloc (Nat.le_refl _) _).alloc (by simp) _).trans (h1.mono (by simp only [World.size_alloc]; omega)))
          have HB1 := Lib.hid (show Bk w1 w.heap.size 50 #[.int .i64 0, .int .i64 0, .int .i64 0, .bool false, .int .u8 0, .slice none 0 0, .slice none 0 0] from ((Bk.new w _ _).alloc _).below h1 (by simp only [World.size_alloc]; omega))
          have HA1 := Lib.hid (show Bk w1 (w.heap.size + 1) 50 #[.int .i64 0, .int .i64 0, .int .i64 0, .bool false, .int .u8 0, .slice none 0 0, .slice none 0 0] from by
            have h := Bk.new (w.alloc (.cells #[.int .i64 0, .int .i64 0, .int .i64 0, .bool false, .int .u8 0, .slice none 0 0, .slice none 0 0] 50)) 50 #[.int .i64 0, .int .i64 0, .int .i64 0, .bool false, .int .u8 0, .slice none 0 0, .slice none 0 0]
            simp only [World.size_alloc] at h
            exact h.below h1 (by simp only [World.size_alloc]; omega))
          have hcg : ∀ i, w1.cell? ⟨g, i, none⟩ = w.cell? ⟨g, i, none⟩ := fun i => (h1.cell (p := ⟨g, i, none⟩) (by simp only [World.size_alloc]; omega)).trans ((World.cell?_alloc_lt _ _ _ (by simp only [World.size_alloc]; omega)).trans (World.cell?_alloc_lt _ _ _ hz))
          have hsz1 : w.heap.size + 1 < w1.heap.size := by have := h1.size; simp at this; omega
          obtain ⟨hcc, hff⟩ := bcell h1
          clear h1
          go_wp2_with (first | (go_at_call 58; refine (reads_cmd _ _).mono ?_; rintro e w' ⟨rfl, rfl⟩; rw [HRD.out]))
          exact bodyPost_ret (v := .tuple #[.agg #[.int .i64 0, .int .i64 0, .int .i64 0, .bool false, .int .u8 0, .slice none 0 0, .slice none 0 0], .int .i64 1]) (results_struct_tmp (p := 2) (q := 3) rfl _ _ w.heap.size 50 _ _ _ rfl (Bk_fill7 (Bk_far7 HB1.out (by omega) _ _ _ _ _ _ _) _ _ _ _ _ _ _) Tryd.underlying50 rfl (by kernel_rfl)) rfl ⟨by rw [HR.out]; exact ActEnd_of _ _ _ _ _ _ BOwn_nil BOwn_nil, below_fill7 (below_fill7 H1.out (by omega) _ _ _ _ _ _ _) (Nat.le_refl _) _ _ _ _ _ _ _⟩
      · have HR := Lib.hid (show readsOf (x0 :: 2 :: r) = (A0, 4) by rw [HU.out, if_pos rfl, if_neg hn])
        have hqn : ((n : Int) == 2) = false := by rw [hq2]; exact decide_eq_false hn
        clear hn hd3 hq2 hcr
        go_enter Tryd.func40, Tryd.ntmps40
        go_wp2_with fail
        refine (command_any _ hb1 _ (HC.out.below (((Below.refl _ _).alloc (Nat.le_refl _) _).alloc (by simp) _) HC.out.lt)).mono ?_
        rintro e w1 ⟨rfl, h1⟩
        rw [HV.out]
        have H1 := Lib.hid ((((Below.refl _ _).alloc (Nat.le_refl _) _).alloc (by simp) _).trans (h1.mono (by simp only [World.size_alloc]; omega)))
        have HB1 := Lib.hid (show Bk w1 w.heap.size 50 #[.int .i64 0, .int .i64 0, .int .i64 0, .bool false, .int .u8 0, .slice none 0 0, .slice none 0 0] from ((Bk.new w _ _).alloc _).below h1 (by simp only [World.size_alloc]; omega))
        have HA1 := Lib.hid (show Bk w1 (w.heap.size + 1) 50 #[.int .i64 0, .int .i64 0, .int .i64 0, .bool false, .int .u8 0, .slice none 0 0, .slice none 0 0] from by
          have h := Bk.new (w.alloc (.cells #[.int .i64 0, .int .i64 0, .int .i64 0, .bool false, .int .u8 0, .slice none 0 0, .slice none 0 0] 50)) 50 #[.int .i64 0, .int .i64 0, .int .i64 0, .bool false, .int .u8 0, .slice none 0 0, .slice none 0 0]
          simp only [World.size_alloc] at h
          exact h.below h1 (by simp only [World.size_alloc]; omega))
        have hcg : ∀ i, w1.cell? ⟨g, i, none⟩ = w.cell? ⟨g, i, none⟩ := fun i => (h1.cell (p := ⟨g, i, none⟩) (by simp only [World.size_alloc]; omega)).trans ((World.cell?_alloc_lt _ _ _ (by simp only [World.size_alloc]; omega)).trans (World.cell?_alloc_lt _ _ _ hz))
        have hsz1 : w.heap.size + 1 < w1.heap.size := by have := h1.size; simp at this; omega
        obtain ⟨hcc, hff⟩ := bcell h1
        clear h1
        go_wp2_with (first | (go_at_call 58; refine (reads_cmd _ _).mono ?_; rintro e w' ⟨rfl, rfl⟩; rw [HRD.out]))
        exact bodyPost_ret (v := .tuple #[.agg #[.int .i64 0, .int .i64 0, .int .i64 0, .bool false, .int .u8 0, .slice none 0 0, .slice none 0 0], .int .i64 4]) (results_struct_tmp (p := 2) (q := 3) rfl _ _ w.heap.size 50 _ _ _ rfl (Bk_fill7 HB1.out _ _ _ _ _ _ _) Tryd.underlying50 rfl (by kernel_rfl)) rfl ⟨by rw [HR.out]; exact ActEnd_of _ _ _ _ _ _ BOwn_nil BOwn_nil, below_fill7 H1.out (Nat.le_refl _) _ _ _ _ _ _ _⟩
    · have hxe2 : ((x1 : Int) == 2) = false := beq_eq_false_iff_ne.2 (by omega)
      by_cases e3 : x1 = 3
      · subst e3
        have HV := Lib.hid (show cmdVal 3 = .tuple #[.int .i64 0, .bool true] from rfl)
        have HRD := Lib.hid (show decide (isRead 0) = false from rfl)
        by_cases hn : 3 ≤ n
        · have hqn : decide (3 ≤ (n : Int)) = true := by rw [hd3]; exact decide_eq_true hn
          have hn3 : 2 < n := by omega
          obtain ⟨x2, r2, rfl⟩ : ∃ x2 r2, r = x2 :: r2 := by
            cases r with
            | nil => have h9 := HNL.out; simp at h9; omega
            | cons x2 r2 => exact ⟨x2, r2, rfl⟩
          have hc2 := BOwn_cell HVV.out (i := 2) (x := x2) rfl
          by_cases hq : reqOk x2
          · obtain ⟨hnl0, A4, hA4, hrow, hsl⟩ := BOwn_rest HVV.out 3 (by omega)
            have hsl1 : ∀ w : World, (Instr.slice 23 (.slice (some ⟨g, 0, none⟩) n cap) (some (.int .i64 3)) none none).run Tryd.prog w = .ok (.slice (some A4) (n - 3) (cap - 3)) w := hsl
            have HROW := Lib.hid hrow
            have hdlen : (r2).length ≤ 140737488351232 := by have := HNL.out; simp at this; omega
            have hreq : x2 = 0 ∨ x2 = 64 ∨ x2 = 128 := hq
            have HRP := Lib.hid (show readsOf (x0 :: 3 :: x2 :: r2) = partOf (aList x2 r2) x0 255 by rw [HU.out, if_neg (by decide), if_pos rfl, if_pos hn]; exact if_pos hq)
            clear hn hd3 hq2 hcr hq hrow hsl hA4 hnl0
            by_cases hx0 : x0 = 255
            · subst hx0
              have HR := Lib.hid (HRP.out.trans (partOf_eq rfl))
              rcases hreq with rfl | rfl | rfl
              all_goals
                go_enter Tryd.func40, Tryd.ntmps40
                go_wp2_with fail
                refine (command_any _ hb1 _ (HC.out.below (((Below.refl _ _).alloc (Nat.le_refl _) _).alloc (by simp) _) HC.out.lt)).mono ?_
                rintro e w1 ⟨rfl, h1⟩
                rw [HV.out]
                have H1 := Lib.hid ((((Below.refl _ _).alloc (Nat.le_refl _) _).alloc (by simp) _).trans (h1.mono (by simp only [World.size_alloc]; omega)))
                have HB1 := Lib.hid (show Bk w1 w.heap.size 50 #[.int .i64 0, .int .i64 0, .int .i64 0, .bool false, .int .u8 0, .slice none 0 0, .slice none 0 0] from ((Bk.new w _ _).alloc _).below h1 (by simp only [World.size_alloc]; omega))
                have HA1 := Lib.hid (show Bk w1 (w.heap.size + 1) 50 #[.int .i64 0, .int .i64 0, .int .i64 0, .bool false, .int .u8 0, .slice none 0 0, .slice none 0 0] from by
                  have h := Bk.new (w.alloc (.cells #[.int .i64 0, .int .i64 0, .int .i64 0, .bool false, .int .u8 0, .slice none 0 0, .slice none 0 0] 50)) 50 #[.int .i64 0, .int .i64 0, .int .i64 0, .bool false, .int .u8 0, .slice none 0 0, .slice none 0 0]
                  simp only [World.size_alloc] at h
                  exact h.below h1 (by simp only [World.size_alloc]; omega))
                have hcg : ∀ i, w1.cell? ⟨g, i, none⟩ = w.cell? ⟨g, i, none⟩ := fun i => (h1.cell (p := ⟨g, i, none⟩) (by simp only [World.size_alloc]; omega)).trans ((World.cell?_alloc_lt _ _ _ (by simp only [World.size_alloc]; omega)).trans (World.cell?_alloc_lt _ _ _ hz))
                have HROW1 := Lib.hid (show BRow w1.drew _ _ from HROW.out w1.drew ((h1.block g (by simp; omega)).trans ((Below.heap_alloc _ _ _ (by simp; omega)).trans (Below.heap_alloc _ _ _ hz))))
                have hsz1 : w.heap.size + 1 < w1.heap.size := by have := h1.size; simp at this; omega
                obtain ⟨hcc, hff⟩ := bcell h1
                clear h1
                go_wp2_with fail
                clear hcc hff
                have hgw1 : g < w1.heap.size := by omega
                go_region_with (first | (go_at_call 56; refine (clone_own _ r2 _ HROW1.out hdlen).mono ?_; rintro e w2 ⟨av, cv, rfl, ho, h2⟩; have HO2 := Lib.hid ho; have H2 := Lib.hid (H1.out.drew.trans (h2.mono (by simp; omega))); have HB2 := Lib.hid (HB1.out.drew.below h2 (by simp; omega)); have HA2 := Lib.hid (HA1.out.drew.below h2 (by simp; omega)); have hsz2 : w.heap.size + 1 < w2.heap.size := (by have := h2.size; simp at this; omega); have hsz12 : w1.heap.size ≤ w2.heap.size := (by have := h2.size; simpa using this); have hc02 := (h2.cell (p := ⟨g, 0, none⟩) (by simpa using hgw1)).trans ((hcg 0).trans hc0); have hc22 := (h2.cell (p := ⟨g, 2, none⟩) (by simpa using hgw1)).trans ((hcg 2).trans hc2); obtain ⟨d0, d1, d2, d3, d4, d5, d6⟩ := cells7 HB2.out; obtain ⟨f0, f1, f2, f3, f4, f5, f6⟩ := frozen7 HB2.out; obtain ⟨p0, p1, p2, p3, p4, p5, p6⟩ := cells7 HA2.out; obtain ⟨q0, q1, q2, q3, q4, q5, q6⟩ := frozen7 HA2.out; clear h2 ho))
                all_goals
                  go_wp2
                  clear d0 d1 d2 d3 d4 d5 d6 f0 f1 f2 f3 f4 f5 f6 p0 p1 p2 p3 p4 p5 p6 q0 q1 q2 q3 q4 q5 q6
                  exact bodyPost_ret (v := .tuple #[.agg #[.int .i64 2, .int .i64 0, .int .i64 0, .bool false, .int .u8 _, .slice av r2.length cv, .slice none 0 0], .int .i64 0]) (results_struct_tmp (p := 2) (q := 3) rfl _ _ w.heap.size 50 _ _ _ rfl (Bk_fill7 (Bk_far7 HB2.out (by omega) _ _ _ _ _ _ _) _ _ _ _ _ _ _) Tryd.underlying50 rfl (by kernel_rfl)) rfl ⟨by rw [HR.out]; exact ActEnd_of _ _ _ _ _ _ ((BOwn_fill7 (BOwn_fill7 (HO2.out.lower (C := w.heap.size + 2) (by simp; omega)) (by omega) _ _ _ _ _ _ _) (by omega) _ _ _ _ _ _ _).lower (by omega)) BOwn_nil, below_fill7 (below_fill7 H2.out (by omega) _ _ _ _ _ _ _) (Nat.le_refl _) _ _ _ _ _ _ _⟩
            · have HR := Lib.hid (HRP.out.trans (partOf_ne hx0))
              have hq0 : ((x0 : Int) != 255) = true := bne_iff_ne.2 (by omega)
              clear hx0
              rcases hreq with rfl | rfl | rfl
              all_goals
                go_enter Tryd.func40, Tryd.ntmps40
                go_wp2_with fail
                refine (command_any _ hb1 _ (HC.out.below (((Below.refl _ _).alloc (Nat.le_refl _) _).alloc (by simp) _) HC.out.lt)).mono ?_
                rintro e w1 ⟨rfl, h1⟩
                rw [HV.out]
                have H1 := Lib.hid ((((Below.refl _ _).alloc (Nat.le_refl _) _).alloc (by simp) _).trans (h1.mono (by simp only [World.size_alloc]; omega)))
                have HB1 := Lib.hid (show Bk w1 w.heap.size 50 #[.int .i64 0, .int .i64 0, .int .i64 0, .bool false, .int .u8 0, .slice none 0 0, .slice none 0 0] from ((Bk.new w _ _).alloc _).below h1 (by simp only [World.size_alloc]; omega))
                have HA1 := Lib.hid (show Bk w1 (w.heap.size + 1) 50 #[.int .i64 0, .int .i64 0, .int .i64 0, .bool false, .int .u8 0, .slice none 0 0, .slice none 0 0] from by
                  have h := Bk.new (w.alloc (.cells #[.int .i64 0, .int .i64 0, .int .i64 0, .bool false, .int .u8 0, .slice none 0 0, .slice none 0 0] 50)) 50 #[.int .i64 0, .int .i64 0, .int .i64 0, .bool false, .int .u8 0, .slice none 0 0, .slice none 0 0]
                  simp only [World.size_alloc] at h
                  exact h.below h1 (by simp only [World.size_alloc]; omega))
                have hcg : ∀ i, w1.cell? ⟨g, i, none⟩ = w.cell? ⟨g, i, none⟩ := fun i => (h1.cell (p := ⟨g, i, none⟩) (by simp only [World.size_alloc]; omega)).trans ((World.cell?_alloc_lt _ _ _ (by simp only [World.size_alloc]; omega)).trans (World.cell?_alloc_lt _ _ _ hz))
                have HROW1 := Lib.hid (show BRow w1.drew _ _ from HROW.out w1.drew ((h1.block g (by simp; omega)).trans ((Below.heap_alloc _ _ _ (by simp; omega)).trans (Below.heap_alloc _ _ _ hz))))
                have hsz1 : w.heap.size + 1 < w1.heap.size := by have := h1.size; simp at this; omega
                obtain ⟨hcc, hff⟩ := bcell h1
                clear h1
                go_wp2_with fail
                clear hcc hff
                have hgw1 : g < w1.heap.size := by omega
                go_region_with (first | (go_at_call 56; refine (clone_own _ r2 _ HROW1.out hdlen).mono ?_; rintro e w2 ⟨av, cv, rfl, ho, h2⟩; have HO2 := Lib.hid ho; have H2 := Lib.hid (H1.out.drew.trans (h2.mono (by simp; omega))); have HB2 := Lib.hid (HB1.out.drew.below h2 (by simp; omega)); have HA2 := Lib.hid (HA1.out.drew.below h2 (by simp; omega)); have hsz2 : w.heap.size + 1 < w2.heap.size := (by have := h2.size; simp at this; omega); have hsz12 : w1.heap.size ≤ w2.heap.size := (by have := h2.size; simpa using this); have hc02 := (h2.cell (p := ⟨g, 0, none⟩) (by simpa using hgw1)).trans ((hcg 0).trans hc0); have hc22 := (h2.cell (p := ⟨g, 2, none⟩) (by simpa using hgw1)).trans ((hcg 2).trans hc2); obtain ⟨d0, d1, d2, d3, d4, d5, d6⟩ := cells7 HB2.out; obtain ⟨f0, f1, f2, f3, f4, f5, f6⟩ := frozen7 HB2.out; obtain ⟨p0, p1, p2, p3, p4, p5, p6⟩ := cells7 HA2.out; obtain ⟨q0, q1, q2, q3, q4, q5, q6⟩ := frozen7 HA2.out; clear h2 ho))
                all_goals
                  go_wp2
                  clear d0 d1 d2 d3 d4 d5 d6 f0 f1 f2 f3 f4 f5 f6 p0 p1 p2 p3 p4 p5 p6 q0 q1 q2 q3 q4 q5 q6
                  exact bodyPost_ret (v := .tuple #[.agg #[.int .i64 0, .int .i64 0, .int .i64 0, .bool false, .int .u8 0, .slice none 0 0, .slice none 0 0], .int .i64 1]) (results_struct_tmp (p := 2) (q := 3) rfl _ _ w.heap.size 50 _ _ _ rfl (Bk_fill7 (Bk_far7 HB2.out (by omega) _ _ _ _ _ _ _) _ _ _ _ _ _ _) Tryd.underlying50 rfl (by kernel_rfl)) rfl ⟨by rw [HR.out]; exact ActEnd_of _ _ _ _ _ _ BOwn_nil BOwn_nil, below_fill7 (below_fill7 H2.out (by omega) _ _ _ _ _ _ _) (Nat.le_refl _) _ _ _ _ _ _ _⟩
          · have HR := Lib.hid (show readsOf (x0 :: 3 :: x2 :: r2) = (A0, 4) by rw [HU.out, if_neg (by decide), if_pos rfl, if_pos hn]; exact if_neg hq)
            have hr0 : ((x2 : Int) == 0) = false := beq_eq_false_iff_ne.2 (fun e => hq (.inl (by omega)))
            have hr1 : ((x2 : Int) == 64) = false := beq_eq_false_iff_ne.2 (fun e => hq (.inr (.inl (by omega))))
            have hr2 : ((x2 : Int) == 128) = false := beq_eq_false_iff_ne.2 (fun e => hq (.inr (.inr (by omega))))
            clear hn hd3 hq2 hcr hq
            go_enter Tryd.func40, Tryd.ntmps40
            go_wp2_with fail
            refine (command_any _ hb1 _ (HC.out.below (((Below.refl _ _).alloc (Nat.le_refl _) _).alloc (by simp) _) HC.out.lt)).mono ?_
            rintro e w1 ⟨rfl, h1⟩
            rw [HV.out]
            have H1 := Lib.hid ((((Below.refl _ _).alloc (Nat.le_refl _) _).alloc (by simp) _).trans (h1.mono (by simp only [World.size_alloc]; omega)))
            have HB1 := Lib.hid (show Bk w1 w.heap.size 50 #[.int .i64 0, .int .i64 0, .int .i64 0, .bool false, .int .u8 0, .slice none 0 0, .slice none 0 0] from ((Bk.new w _ _).alloc _).below h1 (by simp only [World.size_alloc]; omega))
            have HA1 := Lib.hid (show Bk w1 (w.heap.size + 1) 50 #[.int .i64 0, .int .i64 0, .int .i64 0, .bool false, .int .u8 0, .slice none 0 0, .slice none 0 0] from by
              have h := Bk.new (w.alloc (.cells #[.int .i64 0, .int .i64 0, .int .i64 0, .bool false, .int .u8 0, .slice none 0 0, .slice none 0 0] 50)) 50 #[.int .i64 0, .int .i64 0, .int .i64 0, .bool false, .int .u8 0, .slice none 0 0, .slice none 0 0]
              simp only [World.size_alloc] at h
              exact h.below h1 (by simp only [World.size_alloc]; omega))
            have hcg : ∀ i, w1.cell? ⟨g, i, none⟩ = w.cell? ⟨g, i, none⟩ := fun i => (h1.cell (p := ⟨g, i, none⟩) (by simp only [World.size_alloc]; omega)).trans ((World.cell?_alloc_lt _ _ _ (by simp only [World.size_alloc]; omega)).trans (World.cell?_alloc_lt _ _ _ hz))
            have hsz1 : w.heap.size + 1 < w1.heap.size := by have := h1.size; simp at this; omega
            obtain ⟨hcc, hff⟩ := bcell h1
            clear h1
            go_wp2_with (first | (go_at_call 58; refine (reads_cmd _ _).mono ?_; rintro e w' ⟨rfl, rfl⟩; rw [HRD.out]))
            exact bodyPost_ret (v := .tuple #[.agg #[.int .i64 0, .int .i64 0, .int .i64 0, .bool false, .int .u8 0, .slice none 0 0, .slice none 0 0], .int .i64 4]) (results_struct_tmp (p := 2) (q := 3) rfl _ _ w.heap.size 50 _ _ _ rfl (Bk_fill7 HB1.out _ _ _ _ _ _ _) Tryd.underlying50 rfl (by kernel_rfl)) rfl ⟨by rw [HR.out]; exact ActEnd_of _ _ _ _ _ _ BOwn_nil BOwn_nil, below_fill7 H1.out (Nat.le_refl _) _ _ _ _ _ _ _⟩
        · have HR := Lib.hid (show readsOf (x0 :: 3 :: r) = (A0, 4) by rw [HU.out, if_neg (by decide), if_pos rfl, if_neg hn])
          have hqn : decide (3 ≤ (n : Int)) = false := by rw [hd3]; exact decide_eq_false hn
          clear hn hd3 hq2 hcr
          go_enter Tryd.func40, Tryd.ntmps40
          go_wp2_with fail
          refine (command_any _ hb1 _ (HC.out.below (((Below.refl _ _).alloc (Nat.le_refl _) _).alloc (by simp) _) HC.out.lt)).mono ?_
          rintro e w1 ⟨rfl, h1⟩
          rw [HV.out]
          have H1 := Lib.hid ((((Below.refl _ _).alloc (Nat.le_refl _) _).alloc (by simp) _).trans (h1.mono (by simp only [World.size_alloc]; omega)))
          have HB1 := Lib.hid (show Bk w1 w.heap.size 50 #[.int .i64 0, .int .i64 0, .int .i64 0, .bool false, .int .u8 0, .slice none 0 0, .slice none 0 0] from ((Bk.new w _ _).alloc _).below h1 (by simp only [World.size_alloc]; omega))
          have HA1 := Lib.hid (show Bk w1 (w.heap.size + 1) 50 #[.int .i64 0, .int .i64 0, .int .i64 0, .bool false, .int .u8 0, .slice none 0 0, .slice none 0 0] from by
            have h := Bk.new (w.alloc (.cells #[.int .i64 0, .int .i64 0, .int .i64 0, .bool false, .int .u8 0, .slice none 0 0, .slice none 0 0] 50)) 50 #[.int .i64 0, .int .i64 0, .int .i64 0, .bool false, .int .u8 0, .slice none 0 0, .slice none 0 0]
            simp only [World.size_alloc] at h
            exact h.below h1 (by simp only [World.size_alloc]; omega))
          have hcg : ∀ i, w1.cell? ⟨g, i, none⟩ = w.cell? ⟨g, i, none⟩ := fun i => (h1.cell (p := ⟨g, i, none⟩) (by simp only [World.size_alloc]; omega)).trans ((World.cell?_alloc_lt _ _ _ (by simp only [World.size_alloc]; omega)).trans (World.cell?_alloc_lt _ _ _ hz))
          have hsz1 : w.heap.size + 1 < w1.heap.size := by have := h1.size; simp at this; omega
          obtain ⟨hcc, hff⟩ := bcell h1
          clear h1
          go_wp2_with (first | (go_at_call 58; refine (reads_cmd _ _).mono ?_; rintro e w' ⟨rfl, rfl⟩; rw [HRD.out]))
          exact bodyPost_ret (v := .tuple #[.agg #[.int .i64 0, .int .i64 0, .int .i64 0, .bool false, .int .u8 0, .slice none 0 0, .slice none 0 0], .int .i64 4]) (results_struct_tmp (p := 2) (q := 3) rfl _ _ w.heap.size 50 _ _ _ rfl (Bk_fill7 HB1.out _ _ _ _ _ _ _) Tryd.underlying50 rfl (by kernel_rfl)) rfl ⟨by rw [HR.out]; exact ActEnd_of _ _ _ _ _ _ BOwn_nil BOwn_nil, below_fill7 H1.out (Nat.le_refl _) _ _ _ _ _ _ _⟩
      · have hxe3 : ((x1 : Int) == 3) = false := beq_eq_false_iff_ne.2 (by omega)
        by_cases hm : cmdOf x1 = -1
        · have HV := Lib.hid (show cmdVal x1 = .tuple #[.int .i64 0, .bool false] from if_pos hm)
          have HRD : Hid True := Lib.hid trivial
          have HR := Lib.hid (show readsOf (x0 :: x1 :: r) = (A0, 4) by rw [HU.out, if_neg e2, if_neg e3, if_neg (by rw [hm]; decide)])
          clear hd3 hq2 hcr e2 e3 hm
          go_enter Tryd.func40, Tryd.ntmps40
          go_wp2_with fail
          refine (command_any _ hb1 _ (HC.out.below (((Below.refl _ _).alloc (Nat.le_refl _) _).alloc (by simp) _) HC.out.lt)).mono ?_
          rintro e w1 ⟨rfl, h1⟩
          rw [HV.out]
          have H1 := Lib.hid ((((Below.refl _ _).alloc (Nat.le_refl _) _).alloc (by simp) _).trans (h1.mono (by simp only [World.size_alloc]; omega)))
          have HB1 := Lib.hid (show Bk w1 w.heap.size 50 #[.int .i64 0, .int .i64 0, .int .i64 0, .bool false, .int .u8 0, .slice none 0 0, .slice none 0 0] from ((Bk.new w _ _).alloc _).below h1 (by simp only [World.size_alloc]; omega))
          have HA1 := Lib.hid (show Bk w1 (w.heap.size + 1) 50 #[.int .i64 0, .int .i64 0, .int .i64 0, .bool false, .int .u8 0, .slice none 0 0, .slice none 0 0] from by
            have h := Bk.new (w.alloc (.cells #[.int .i64 0, .int .i64 0, .int .i64 0, .bool false, .int .u8 0, .slice none 0 0, .slice none 0 0] 50)) 50 #[.int .i64 0, .int .i64 0, .int .i64 0, .bool false, .int .u8 0, .slice none 0 0, .slice none 0 0]
            simp only [World.size_alloc] at h
            exact h.below h1 (by simp only [World.size_alloc]; omega))
          have hcg : ∀ i, w1.cell? ⟨g, i, none⟩ = w.cell? ⟨g, i, none⟩ := fun i => (h1.cell (p := ⟨g, i, none⟩) (by simp only [World.size_alloc]; omega)).trans ((World.cell?_alloc_lt _ _ _ (by simp only [World.size_alloc]; omega)).trans (World.cell?_alloc_lt _ _ _ hz))
          have hsz1 : w.heap.size + 1 < w1.heap.size := by have := h1.size; simp at this; omega
          obtain ⟨hcc, hff⟩ := bcell h1
          clear h1
          go_wp2_with (first | (go_at_call 58; refine (reads_cmd _ _).mono ?_; rintro e w' ⟨rfl, rfl⟩; rw [HRD.out]))
          exact bodyPost_ret (v := .tuple #[.agg #[.int .i64 0, .int .i64 0, .int .i64 0, .bool false, .int .u8 0, .slice none 0 0, .slice none 0 0], .int .i64 4]) (results_struct_tmp (p := 2) (q := 3) rfl _ _ w.heap.size 50 _ _ _ rfl (Bk_fill7 HB1.out _ _ _ _ _ _ _) Tryd.underlying50 rfl (by kernel_rfl)) rfl ⟨by rw [HR.out]; exact ActEnd_of _ _ _ _ _ _ BOwn_nil BOwn_nil, below_fill7 H1.out (Nat.le_refl _) _ _ _ _ _ _ _⟩
        · have HV := Lib.hid (show cmdVal x1 = .tuple #[.int .i64 (cmdOf x1), .bool true] from if_neg hm)
          obtain ⟨c, hcm⟩ : ∃ c, c = cmdOf x1 := ⟨_, rfl⟩
          have HUU := Lib.hid (show readsOf (x0 :: x1 :: r) = (if isRead c then (if n = 2 then partOf (aRead c) x0 0 else (A0, 4)) else (A0, 4)) by rw [HU.out, if_neg e2, if_neg e3, hcm])
          rw [← hcm] at HV hcr hm
          by_cases hrd : isRead c
          · have HRD := Lib.hid (show decide (isRead c) = true from decide_eq_true hrd)
            by_cases hn : n = 2
            · have hqn : ((n : Int) == 2) = true := by rw [hq2]; exact decide_eq_true hn
              by_cases hx0 : x0 = 0
              · subst hx0
                have HR := Lib.hid (show readsOf (0 :: x1 :: r) = (aRead c, 0) by rw [HUU.out, if_pos hrd, if_pos hn, partOf_eq rfl])
                clear hn hd3 hq2 hcr e2 e3 hm hcm hrd
                go_enter Tryd.func40, Tryd.ntmps40
                go_wp2_with fail
                refine (command_any _ hb1 _ (HC.out.below (((Below.refl _ _).alloc (Nat.le_refl _) _).alloc (by simp) _) HC.out.lt)).mono ?_
                rintro e w1 ⟨rfl, h1⟩
                rw [HV.out]
                have H1 := Lib.hid ((((Below.refl _ _).alloc (Nat.le_refl _) _).alloc (by simp) _).trans (h1.mono (by simp only [World.size_alloc]; omega)))
                have HB1 := Lib.hid (show Bk w1 w.heap.size 50 #[.int .i64 0, .int .i64 0, .int .i64 0, .bool false, .int .u8 0, .slice none 0 0, .slice none 0 0] from ((Bk.new w _ _).alloc _).below h1 (by simp only [World.size_alloc]; omega))
                have HA1 := Lib.hid (show Bk w1 (w.heap.size + 1) 50 #[.int .i64 0, .int .i64 0, .int .i64 0, .bool false, .int .u8 0, .slice none 0 0, .slice none 0 0] from by
                  have h := Bk.new (w.alloc (.cells #[.int .i64 0, .int .i64 0, .int .i64 0, .bool false, .int .u8 0, .slice none 0 0, .slice none 0 0] 50)) 50 #[.int .i64 0, .int .i64 0, .int .i64 0, .bool false, .int .u8 0, .slice none 0 0, .slice none 0 0]
                  simp only [World.size_alloc] at h
                  exact h.below h1 (by simp only [World.size_alloc]; omega))
                have hcg : ∀ i, w1.cell? ⟨g, i, none⟩ = w.cell? ⟨g, i, none⟩ := fun i => (h1.cell (p := ⟨g, i, none⟩) (by simp only [World.size_alloc]; omega)).trans ((World.cell?_alloc_lt _ _ _ (by simp only [World.size_alloc]; omega)).trans (World.cell?_alloc_lt _ _ _ hz))
                have hsz1 : w.heap.size + 1 < w1.heap.size := by have := h1.size; simp at this; omega
                obtain ⟨hcc, hff⟩ := bcell h1
                clear h1
                go_wp2_with (first | (go_at_call 58; refine (reads_cmd _ _).mono ?_; rintro e w' ⟨rfl, rfl⟩; rw [HRD.out]))
                exact bodyPost_ret (v := .tuple #[.agg #[.int .i64 3, .int .i64 c, .int .i64 0, .bool false, .int .u8 0, .slice none 0 0, .slice none 0 0], .int .i64 0]) (results_struct_tmp (p := 2) (q := 3) rfl _ _ w.heap.size 50 _ _ _ rfl (Bk_fill7 (Bk_far7 HB1.out (by omega) _ _ _ _ _ _ _) _ _ _ _ _ _ _) Tryd.underlying50 rfl (by kernel_rfl)) rfl ⟨by rw [HR.out]; exact ActEnd_of _ _ _ _ _ _ BOwn_nil BOwn_nil, below_fill7 (below_fill7 H1.out (by omega) _ _ _ _ _ _ _) (Nat.le_refl _) _ _ _ _ _ _ _⟩
              · have HR := Lib.hid (show readsOf (x0 :: x1 :: r) = (A0, 1) by rw [HUU.out, if_pos hrd, if_pos hn, partOf_ne hx0])
                have hq0 : ((x0 : Int) != 0) = true := bne_iff_ne.2 (by omega)
                clear hn hd3 hq2 hcr e2 e3 hm hcm hrd hx0
                go_enter Tryd.func40, Tryd.ntmps40
                go_wp2_with fail
                refine (command_any _ hb1 _ (HC.out.below (((Below.refl _ _).alloc (Nat.le_refl _) _).alloc (by simp) _) HC.out.lt)).mono ?_
                rintro e w1 ⟨rfl, h1⟩
                rw [HV.out]
                have H1 := Lib.hid ((((Below.refl _ _).alloc (Nat.le_refl _) _).alloc (by simp) _).trans (h1.mono (by simp only [World.size_alloc]; omega)))
                have HB1 := Lib.hid (show Bk w1 w.heap.size 50 #[.int .i64 0, .int .i64 0, .int .i64 0, .bool false, .int .u8 0, .slice none 0 0, .slice none 0 0] from ((Bk.new w _ _).alloc _).below h1 (by simp only [World.size_alloc]; omega))
                have HA1 := Lib.hid (show Bk w1 (w.heap.size + 1) 50 #[.int .i64 0, .int .i64 0, .int .i64 0, .bool false, .int .u8 0, .slice none 0 0, .slice none 0 0] from by
                  have h := Bk.new (w.alloc (.cells #[.int .i64 0, .int .i64 0, .int .i64 0, .bool false, .int .u8 0, .slice none 0 0, .slice none 0 0] 50)) 50 #[.int .i64 0, .int .i64 0, .int .i64 0, .bool false, .int .u8 0, .slice none 0 0, .slice none 0 0]
                  simp only [World.size_alloc] at h
                  exact h.below h1 (by simp only [World.size_alloc]; omega))
                have hcg : ∀ i, w1.cell? ⟨g, i, none⟩ = w.cell? ⟨g, i, none⟩ := fun i => (h1.cell (p := ⟨g, i, none⟩) (by simp only [World.size_alloc]; omega)).trans ((World.cell?_alloc_lt _ _ _ (by simp only [World.size_alloc]; omega)).trans (World.cell?_alloc_lt _ _ _ hz))
                have hsz1 : w.heap.size + 1 < w1.heap.size := by have := h1.size; simp at this; omega
                obtain ⟨hcc, hff⟩ := bcell h1
                clear h1
                go_wp2_with (first | (go_at_call 58; refine (reads_cmd _ _).mono ?_; rintro e w' ⟨rfl, rfl⟩; rw [HRD.out]))
                exact bodyPost_ret (v := .tuple #[.agg #[.int .i64 0, .int .i64 0, .int .i64 0, .bool false, .int .u8 0, .slice none 0 0, .slice none 0 0], .int .i64 1]) (results_struct_tmp (p := 2) (q := 3) rfl _ _ w.heap.size 50 _ _ _ rfl (Bk_fill7 (Bk_far7 HB1.out (by omega) _ _ _ _ _ _ _) _ _ _ _ _ _ _) Tryd.underlying50 rfl (by kernel_rfl)) rfl ⟨by rw [HR.out]; exact ActEnd_of _ _ _ _ _ _ BOwn_nil BOwn_nil, below_fill7 (below_fill7 H1.out (by omega) _ _ _ _ _ _ _) (Nat.le_refl _) _ _ _ _ _ _ _⟩
            · have HR := Lib.hid (show readsOf (x0 :: x1 :: r) = (A0, 4) by rw [HUU.out, if_pos hrd, if_neg hn])
              have hqn : ((n : Int) == 2) = false := by rw [hq2]; exact decide_eq_false hn
              clear hn hd3 hq2 hcr e2 e3 hm hcm hrd
              go_enter Tryd.func40, Tryd.ntmps40
              go_wp2_with fail
              refine (command_any _ hb1 _ (HC.out.below (((Below.refl _ _).alloc (Nat.le_refl _) _).alloc (by simp) _) HC.out.lt)).mono ?_
              rintro e w1 ⟨rfl, h1⟩
              rw [HV.out]
              have H1 := Lib.hid ((((Below.refl _ _).alloc (Nat.le_refl _) _).alloc (by simp) _).trans (h1.mono (by simp only [World.size_alloc]; omega)))
              have HB1 := Lib.hid (show Bk w1 w.heap.size 50 #[.int .i64 0, .int .i64 0, .int .i64 0, .bool false, .int .u8 0, .slice none 0 0, .slice none 0 0] from ((Bk.new w _ _).alloc _).below h1 (by simp only [World.size_alloc]; omega))
              have HA1 := Lib.hid (show Bk w1 (w.heap.size + 1) 50 #[.int .i64 0, .int .i64 0, .int .i64 0, .bool false, .int .u8 0, .slice none 0 0, .slice none 0 0] from by
                have h := Bk.new (w.alloc (.cells #[.int .i64 0, .int .i64 0, .int .i64 0, .bool false, .int .u8 0, .slice none 0 0, .slice none 0 0] 50)) 50 #[.int .i64 0, .int .i64 0, .int .i64 0, .bool false, .int .u8 0, .slice none 0 0, .slice none 0 0]
                simp only [World.size_alloc] at h
                exact h.below h1 (by simp only [World.size_alloc]; omega))
              have hcg : ∀ i, w1.cell? ⟨g, i, none⟩ = w.cell? ⟨g, i, none⟩ := fun i => (h1.cell (p := ⟨g, i, none⟩) (by simp only [World.size_alloc]; omega)).trans ((World.cell?_alloc_lt _ _ _ (by simp only [World.size_alloc]; omega)).trans (World.cell?_alloc_lt _ _ _ hz))
              have hsz1 : w.heap.size + 1 < w1.heap.size := by have := h1.size; simp at this; omega
              obtain ⟨hcc, hff⟩ := bcell h1
              clear h1
              go_wp2_with (first | (go_at_call 58; refine (reads_cmd _ _).mono ?_; rintro e w' ⟨rfl, rfl⟩; rw [HRD.out]))
              exact bodyPost_ret (v := .tuple #[.agg #[.int .i64 0, .int .i64 0, .int .i64 0, .bool false, .int .u8 0, .slice none 0 0, .slice none 0 0], .int .i64 4]) (results_struct_tmp (p := 2) (q := 3) rfl _ _ w.heap.size 50 _ _ _ rfl (Bk_fill7 HB1.out _ _ _ _ _ _ _) Tryd.underlying50 rfl (by kernel_rfl)) rfl ⟨by rw [HR.out]; exact ActEnd_of _ _ _ _ _ _ BOwn_nil BOwn_nil, below_fill7 H1.out (Nat.le_refl _) _ _ _ _ _ _ _⟩
          · have HRD := Lib.hid (show decide (isRead c) = false from decide_eq_false hrd)
            have HR := Lib.hid (show readsOf (x0 :: x1 :: r) = (A0, 4) by rw [HUU.out, if_neg hrd])
            clear hd3 hq2 hcr e2 e3 hm hcm hrd
            go_enter Tryd.func40, Tryd.ntmps40
            go_wp2_with fail
            refine (command_any _ hb1 _ (HC.out.below (((Below.refl _ _).alloc (Nat.le_refl _) _).alloc (by simp) _) HC.out.lt)).mono ?_
            rintro e w1 ⟨rfl, h1⟩
            rw [HV.out]
            have H1 := Lib.hid ((((Below.refl _ _).alloc (Nat.le_refl _) _).alloc (by simp) _).trans (h1.mono (by simp only [World.size_alloc]; omega)))
            have HB1 := Lib.hid (show Bk w1 w.heap.size 50 #[.int .i64 0, .int .i64 0, .int .i64 0, .bool false, .int .u8 0, .slice none 0 0, .slice none 0 0] from ((Bk.new w _ _).alloc _).below h1 (by simp only [World.size_alloc]; omega))
            have HA1 := Lib.hid (show Bk w1 (w.heap.size + 1) 50 #[.int .i64 0, .int .i64 0, .int .i64 0, .bool false, .int .u8 0, .slice none 0 0, .slice none 0 0] from by
              have h := Bk.new (w.alloc (.cells #[.int .i64 0, .int .i64 0, .int .i64 0, .bool false, .int .u8 0, .slice none 0 0, .slice none 0 0] 50)) 50 #[.int .i64 0, .int .i64 0, .int .i64 0, .bool false, .int .u8 0, .slice none 0 0, .slice none 0 0]
              simp only [World.size_alloc] at h
              exact h.below h1 (by simp only [World.size_alloc]; omega))
            have hcg : ∀ i, w1.cell? ⟨g, i, none⟩ = w.cell? ⟨g, i, none⟩ := fun i => (h1.cell (p := ⟨g, i, none⟩) (by simp only [World.size_alloc]; omega)).trans ((World.cell?_alloc_lt _ _ _ (by simp only [World.size_alloc]; omega)).trans (World.cell?_alloc_lt _ _ _ hz))
            have hsz1 : w.heap.size + 1 < w1.heap.size := by have := h1.size; simp at this; omega
            obtain ⟨hcc, hff⟩ := bcell h1
            clear h1
            go_wp2_with (first | (go_at_call 58; refine (reads_cmd _ _).mono ?_; rintro e w' ⟨rfl, rfl⟩; rw [HRD.out]))
            exact bodyPost_ret (v := .tuple #[.agg #[.int .i64 0, .int .i64 0, .int .i64 0, .bool false, .int .u8 0, .slice none 0 0, .slice none 0 0], .int .i64 4]) (results_struct_tmp (p := 2) (q := 3) rfl _ _ w.heap.size 50 _ _ _ rfl (Bk_fill7 HB1.out _ _ _ _ _ _ _) Tryd.underlying50 rfl (by kernel_rfl)) rfl ⟨by rw [HR.out]; exact ActEnd_of _ _ _ _ _ _ BOwn_nil BOwn_nil, below_fill7 H1.out (Nat.le_refl _) _ _ _ _ _ _ _⟩

end Go.Proofs.YtcibhchbgendaaaDoor.Sf
