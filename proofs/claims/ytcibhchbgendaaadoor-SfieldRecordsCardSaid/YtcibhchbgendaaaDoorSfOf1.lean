/- The walk of vitrineref21.Of: what a field asks for. -/
import Derived.Test.YtcibhchbgendaaaDoorSfRef
import Derived.Test.YtcibhchbgendaaaDoorSfReads
import Derived.Deep.RegionWith
namespace Go.Proofs.YtcibhchbgendaaaDoor.Sf
open Go Go.RowKit Go.Proofs.YtcibhchbgendaaaDoor.By

theorem BOwn_set {N g i : Nat} {W : World} {v : Value} {l : List Nat} (h : BOwn N W v l) (hg : g < N) (u : Value) : BOwn N (W.setCell ⟨g, i, none⟩ u) v l :=
  h.keep fun g' n c e => Below.heap_setCell W _ u g' (by
    rcases h.lt with h | ⟨g2, n2, c2, h, h2, _⟩
    · rw [h] at e; cases e
    · rw [h] at e; injection e with e; injection e with e; injection e with e; subst e; simp; omega)
set_option maxHeartbeats 4000000 in
set_option maxRecDepth 100000 in
theorem of1_any (B : Nat) (v : Value) (l : List Nat) (w : World) (hv : BOwn B w v l) (h47 : l.length ≤ 140737488351232) :
    Calls Tryd.prog 22 #[.agg #[.int .u8 1, v]] w fun e w' => ActEnd (readsOf l) w.heap.size e w' ∧ Below w.heap.size w w' := by
  have hmax : l.length ≤ 9223372036854775807 := hv.row.len
  by_cases h2 : l.length < 2
  · have HR := Lib.hid (show readsOf l = (A0, 4) by unfold readsOf; rw [if_pos h2])
    obtain ⟨a, cap, rfl⟩ := BOwn_form hv
    obtain ⟨n, hn⟩ : ∃ n, n = l.length := ⟨_, rfl⟩
    rw [← hn] at h2 ⊢
    have hn1 : decide ((n : Int) < 2) = true := decide_eq_true (by omega)
    clear hv hn h2 hmax h47
    go_enter Tryd.func22, Tryd.ntmps22
    go_wp2
    exact bodyPost_ret (v := .tuple #[.agg #[.int .i64 0, .int .i64 0, .int .i64 0, .bool false, .int .u8 0, .slice none 0 0, .slice none 0 0], .int .i64 4]) (by simp [results, Tryd.results22, go_sem]) rfl ⟨by rw [HR.out]; exact ActEnd_of _ _ _ _ _ _ BOwn_nil BOwn_nil, ((((Below.refl _ _).alloc (Nat.le_refl _) _).alloc (by simp) _).alloc (by simp; omega) _)⟩
  · obtain ⟨x0, x1, r, rfl⟩ : ∃ x0 x1 r, l = x0 :: x1 :: r := by
      match l, h2 with
      | [], h => simp at h
      | [_], h => simp at h
      | x0 :: x1 :: r, _ => exact ⟨x0, x1, r, rfl⟩
    obtain ⟨g, cap, rfl, hc1⟩ := BOwn_at hv (i := 1) (x := x1) rfl
    have hc0 := BOwn_cell hv (i := 0) (x := x0) rfl
    have hz : g < w.heap.size := cell_lt hc0
    have hz1 : g < w.heap.size + 1 := by omega
    have hz2 : g < w.heap.size + 1 + 1 := by omega
    have hb1 : x1 < 256 := hv.1 x1 (by simp)
    have HVV := Lib.hid hv
    obtain ⟨n, hn⟩ : ∃ n, n = (x0 :: x1 :: r).length := ⟨_, rfl⟩
    have hn2 : 2 ≤ n := by rw [hn]; simp
    have hn1 : 1 < n := by omega
    have HNL := Lib.hid (show r.length + 2 = n by rw [hn]; rfl)
    rw [← hn] at hmax HVV ⊢
    clear hv hn h2
    have hd2 : decide ((n : Int) < 2) = false := decide_eq_false (by omega)
    have hcr := cmdOf_range x1
    have hl47 : n ≤ 140737488351232 := by have h9 := HNL.out; simp at h47; omega
    clear h47
    have hd3 : decide ((n : Int) < 3) = decide (n < 3) := by by_cases h : n < 3 <;> simp [h] <;> omega
    have hq2 : ((n : Int) == 2) = decide (n = 2) := by by_cases h : n = 2 <;> simp [h] <;> omega
    have hq3 : ((n : Int) != 2) = decide (n ≠ 2) := by by_cases h : n = 2 <;> simp [h] <;> omega
    have HU := Lib.hid (show readsOf (x0 :: x1 :: r) = (if x1 = 2 then (if n = 2 then partOf aQuery x0 255 else (A0, 4)) else if x1 = 3 then (if 3 ≤ n then (if reqOk ((x0 :: x1 :: r).getD 2 0) then partOf (aList ((x0 :: x1 :: r).getD 2 0) ((x0 :: x1 :: r).drop 3)) x0 255 else (A0, 4)) else (A0, 4)) else if isRead (cmdOf x1) then (if n = 2 then partOf (aRead (cmdOf x1)) x0 0 else (A0, 4)) else (A0, 4)) by
      have e : (x0 :: x1 :: r).length = n := by rw [← HNL.out]; rfl
      unfold readsOf
      rw [e, if_neg (by omega)]
      rfl)
    by_cases e2 : x1 = 2
    · subst e2
      have HCM := Lib.hid (show cmdOf 2 = 5 from rfl)
      by_cases hn : n = 2
      · have hqn : ((n : Int) != 2) = false := by rw [hq3]; exact decide_eq_false (fun h => h hn)
        by_cases hx0 : x0 = 255
        · subst hx0
          have HR := Lib.hid (show readsOf (255 :: 2 :: r) = (aQuery, 0) by rw [HU.out, if_pos rfl, if_pos hn, partOf_eq rfl])
          clear hn hd3 hq2 hq3 hcr
          go_enter Tryd.func22, Tryd.ntmps22
          go_wp2_with (go_at_call 45; refine (rcmd_any _ hb1 _).mono ?_; rintro e w' ⟨rfl, rfl⟩; rw [HCM.out])
          exact bodyPost_ret (v := .tuple #[.agg #[.int .i64 1, .int .i64 0, .int .i64 0, .bool false, .int .u8 0, .slice none 0 0, .slice none 0 0], .int .i64 0]) (by simp [results, Tryd.results22, go_sem]) rfl ⟨by rw [HR.out]; exact ActEnd_of _ _ _ _ _ _ BOwn_nil BOwn_nil, ((((Below.refl _ _).alloc (Nat.le_refl _) _).alloc (by simp) _).alloc (by simp; omega) _)⟩
        · have HR := Lib.hid (show readsOf (x0 :: 2 :: r) = (A0, 1) by rw [HU.out, if_pos rfl, if_pos hn, partOf_ne hx0])
          have hq0 : ((x0 : Int) != 255) = true := bne_iff_ne.2 (by omega)
          clear hn hd3 hq2 hq3 hcr hx0
          go_enter Tryd.func22, Tryd.ntmps22
          go_wp2_with (go_at_call 45; refine (rcmd_any _ hb1 _).mono ?_; rintro e w' ⟨rfl, rfl⟩; rw [HCM.out])
          exact bodyPost_ret (v := .tuple #[.agg #[.int .i64 0, .int .i64 0, .int .i64 0, .bool false, .int .u8 0, .slice none 0 0, .slice none 0 0], .int .i64 1]) (by simp [results, Tryd.results22, go_sem]) rfl ⟨by rw [HR.out]; exact ActEnd_of _ _ _ _ _ _ BOwn_nil BOwn_nil, ((((Below.refl _ _).alloc (Nat.le_refl _) _).alloc (by simp) _).alloc (by simp; omega) _)⟩
      · have HR := Lib.hid (show readsOf (x0 :: 2 :: r) = (A0, 4) by rw [HU.out, if_pos rfl, if_neg hn])
        have hqn : ((n : Int) != 2) = true := by rw [hq3]; exact decide_eq_true hn
        clear hn hd3 hq2 hq3 hcr
        go_enter Tryd.func22, Tryd.ntmps22
        go_wp2_with (go_at_call 45; refine (rcmd_any _ hb1 _).mono ?_; rintro e w' ⟨rfl, rfl⟩; rw [HCM.out])
        exact bodyPost_ret (v := .tuple #[.agg #[.int .i64 0, .int .i64 0, .int .i64 0, .bool false, .int .u8 0, .slice none 0 0, .slice none 0 0], .int .i64 4]) (by simp [results, Tryd.results22, go_sem]) rfl ⟨by rw [HR.out]; exact ActEnd_of _ _ _ _ _ _ BOwn_nil BOwn_nil, ((((Below.refl _ _).alloc (Nat.le_refl _) _).alloc (by simp) _).alloc (by simp; omega) _)⟩
    · have hxe2 : ((x1 : Int) == 2) = false := beq_eq_false_iff_ne.2 (by omega)
      by_cases e3 : x1 = 3
      · subst e3
        have HCM := Lib.hid (show cmdOf 3 = 0 from rfl)
        by_cases hn : 3 ≤ n
        · have hqn : decide ((n : Int) < 3) = false := by rw [hd3]; exact decide_eq_false (by omega)
          have hn3 : 2 < n := by omega
          obtain ⟨x2, r2, rfl⟩ : ∃ x2 r2, r = x2 :: r2 := by
            cases r with
            | nil => have h9 := HNL.out; simp at h9; omega
            | cons x2 r2 => exact ⟨x2, r2, rfl⟩
          have hc2 := BOwn_cell HVV.out (i := 2) (x := x2) rfl
          by_cases hq : reqOk x2
          · obtain ⟨hnl0, A4, hA4, hrow, hsl⟩ := BOwn_rest HVV.out 3 (by omega)
            have hsl1 : ∀ w : World, (Instr.slice 23 (.slice (some ⟨g, 0, none⟩) n cap) (some (.int .i64 3)) none none).run Tryd.prog w = .ok (.slice (some A4) (n - 3) (cap - 3)) w := hsl
            have HROW := Lib.hid hrow
            have hdlen : (r2).length ≤ 140737488351232 := by have := HNL.out; simp at this; omega
            have hreq : x2 = 0 ∨ x2 = 64 ∨ x2 = 128 := hq
            have HRP := Lib.hid (show readsOf (x0 :: 3 :: x2 :: r2) = partOf (aList x2 r2) x0 255 by rw [HU.out, if_neg (by decide), if_pos rfl, if_pos hn]; exact if_pos hq)
            clear hn hd3 hq2 hq3 hcr hq hrow hsl hA4 hnl0
            by_cases hx0 : x0 = 255
            · subst hx0
              have HR := Lib.hid (HRP.out.trans (partOf_eq rfl))
              rcases hreq with rfl | rfl | rfl
              all_goals
                have HBB := Lib.hid (show Bk ((((w.alloc (.cells #[.int .u8 1, .slice (some ⟨g, 0, none⟩) n cap] 43)).alloc (.cells #[.int .i64 0, .int .i64 0, .int .i64 0, .bool false, .int .u8 0, .slice none 0 0, .slice none 0 0] 26)).alloc (.cells #[.int .i64 0, .int .i64 0, .int .i64 0, .bool false, .int .u8 0, .slice none 0 0, .slice none 0 0] 26)).drew) (w.heap.size + 1) 26 #[.int .i64 0, .int .i64 0, .int .i64 0, .bool false, .int .u8 0, .slice none 0 0, .slice none 0 0] from by
                  have h := (Bk.new (w.alloc (.cells #[.int .u8 1, .slice (some ⟨g, 0, none⟩) n cap] 43)) 26 #[.int .i64 0, .int .i64 0, .int .i64 0, .bool false, .int .u8 0, .slice none 0 0, .slice none 0 0]).alloc (.cells #[.int .i64 0, .int .i64 0, .int .i64 0, .bool false, .int .u8 0, .slice none 0 0, .slice none 0 0] 26)
                  simp only [World.size_alloc] at h
                  exact h)
                have HAA := Lib.hid (show Bk ((((w.alloc (.cells #[.int .u8 1, .slice (some ⟨g, 0, none⟩) n cap] 43)).alloc (.cells #[.int .i64 0, .int .i64 0, .int .i64 0, .bool false, .int .u8 0, .slice none 0 0, .slice none 0 0] 26)).alloc (.cells #[.int .i64 0, .int .i64 0, .int .i64 0, .bool false, .int .u8 0, .slice none 0 0, .slice none 0 0] 26)).drew) (w.heap.size + 1 + 1) 26 #[.int .i64 0, .int .i64 0, .int .i64 0, .bool false, .int .u8 0, .slice none 0 0, .slice none 0 0] from by
                  have h := Bk.new ((w.alloc (.cells #[.int .u8 1, .slice (some ⟨g, 0, none⟩) n cap] 43)).alloc (.cells #[.int .i64 0, .int .i64 0, .int .i64 0, .bool false, .int .u8 0, .slice none 0 0, .slice none 0 0] 26)) 26 #[.int .i64 0, .int .i64 0, .int .i64 0, .bool false, .int .u8 0, .slice none 0 0, .slice none 0 0]
                  simp only [World.size_alloc] at h
                  exact h)
                have HW3 := Lib.hid (show Below w.heap.size w ((((w.alloc (.cells #[.int .u8 1, .slice (some ⟨g, 0, none⟩) n cap] 43)).alloc (.cells #[.int .i64 0, .int .i64 0, .int .i64 0, .bool false, .int .u8 0, .slice none 0 0, .slice none 0 0] 26)).alloc (.cells #[.int .i64 0, .int .i64 0, .int .i64 0, .bool false, .int .u8 0, .slice none 0 0, .slice none 0 0] 26)).drew) from ((((Below.refl _ _).alloc (Nat.le_refl _) _).alloc (by simp) _).alloc (by simp; omega) _).drew)
                have hrow3 : BRow ((((w.alloc (.cells #[.int .u8 1, .slice (some ⟨g, 0, none⟩) n cap] 43)).alloc (.cells #[.int .i64 0, .int .i64 0, .int .i64 0, .bool false, .int .u8 0, .slice none 0 0, .slice none 0 0] 26)).alloc (.cells #[.int .i64 0, .int .i64 0, .int .i64 0, .bool false, .int .u8 0, .slice none 0 0, .slice none 0 0] 26)).drew) (.slice (some A4) (n - 3) (cap - 3)) r2 := HROW.out _ (HW3.out.block g hz)
                have HROW3 := Lib.hid hrow3
                clear hrow3
                go_enter Tryd.func22, Tryd.ntmps22
                go_wp2_with (first | (go_at_call 45; refine (rcmd_any _ hb1 _).mono ?_; rintro e w' ⟨rfl, rfl⟩; rw [HCM.out]))
                go_region_with (first | (go_at_call 14; refine (copy_any _ r2 _ HROW3.out hdlen).mono ?_; rintro e w2 ⟨v5, rfl, ho, _, h2⟩; obtain ⟨av, cv, rfl⟩ := BOwn_form ho; have HO2 := Lib.hid ho; have H2 := Lib.hid (HW3.out.trans (h2.mono (by simp; omega))); have HB2 := Lib.hid (HBB.out.below h2 (by simp)); have HA2 := Lib.hid (HAA.out.below h2 (by simp)); have hsz2 : w.heap.size + 2 < w2.heap.size := (by have := h2.size; simp at this; omega); have hcg : ∀ i, w2.cell? ⟨g, i, none⟩ = w.cell? ⟨g, i, none⟩ := (fun i => (H2.out.cell (p := ⟨g, i, none⟩) hz)); obtain ⟨d0, d1, d2, d3, d4, d5, d6⟩ := cells7 HB2.out; obtain ⟨f0, f1, f2, f3, f4, f5, f6⟩ := frozen7 HB2.out; obtain ⟨p0, p1, p2, p3, p4, p5, p6⟩ := cells7 HA2.out; obtain ⟨q0, q1, q2, q3, q4, q5, q6⟩ := frozen7 HA2.out; clear h2 ho))
                all_goals
                  go_wp2
                  clear d0 d1 d2 d3 d4 d5 d6 f0 f1 f2 f3 f4 f5 f6 p0 p1 p2 p3 p4 p5 p6 q0 q1 q2 q3 q4 q5 q6 hcg
                  exact bodyPost_ret (v := .tuple #[.agg #[.int .i64 2, .int .i64 0, .int .i64 0, .bool false, .int .u8 _, .slice av r2.length cv, .slice none 0 0], .int .i64 0]) (results_struct_tmp (p := 2) (q := 3) rfl _ _ (w.heap.size + 1) 26 _ _ _ rfl (Bk_fill7 (Bk.far (Bk.far (Bk.far HB2.out (p := ⟨w.heap.size + 1 + 1, _, none⟩) (by simp) _) (p := ⟨w.heap.size + 1 + 1, _, none⟩) (by simp) _) (p := ⟨w.heap.size + 1 + 1, _, none⟩) (by simp) _) _ _ _ _ _ _ _) Tryd.underlying26 rfl (by kernel_rfl)) rfl ⟨by rw [HR.out]; exact ActEnd_of _ _ _ _ _ _ ((BOwn_fill7 (BOwn_set (BOwn_set (BOwn_set (HO2.out.lower (C := w.heap.size + 3) (by simp)) (g := w.heap.size + 1 + 1) (by omega) _) (g := w.heap.size + 1 + 1) (by omega) _) (g := w.heap.size + 1 + 1) (by omega) _) (by omega) _ _ _ _ _ _ _).lower (by omega)) BOwn_nil, below_fill7 (Below.setCell (Below.setCell (Below.setCell H2.out (p := ⟨w.heap.size + 1 + 1, _, none⟩) (by show _ ≤ w.heap.size + 1 + 1; omega) _) (p := ⟨w.heap.size + 1 + 1, _, none⟩) (by show _ ≤ w.heap.size + 1 + 1; omega) _) (p := ⟨w.heap.size + 1 + 1, _, none⟩) (by show _ ≤ w.heap.size + 1 + 1; omega) _) (by omega) _ _ _ _ _ _ _⟩
            · have HR := Lib.hid (HRP.out.trans (partOf_ne hx0))
              have hq0 : ((x0 : Int) != 255) = true := bne_iff_ne.2 (by omega)
              clear hx0
              rcases hreq with rfl | rfl | rfl
              all_goals
                have HBB := Lib.hid (show Bk ((((w.alloc (.cells #[.int .u8 1, .slice (some ⟨g, 0, none⟩) n cap] 43)).alloc (.cells #[.int .i64 0, .int .i64 0, .int .i64 0, .bool false, .int .u8 0, .slice none 0 0, .slice none 0 0] 26)).alloc (.cells #[.int .i64 0, .int .i64 0, .int .i64 0, .bool false, .int .u8 0, .slice none 0 0, .slice none 0 0] 26)).drew) (w.heap.size + 1) 26 #[.int .i64 0, .int .i64 0, .int .i64 0, .bool false, .int .u8 0, .slice none 0 0, .slice none 0 0] from by
                  have h := (Bk.new (w.alloc (.cells #[.int .u8 1, .slice (some ⟨g, 0, none⟩) n cap] 43)) 26 #[.int .i64 0, .int .i64 0, .int .i64 0, .bool false, .int .u8 0, .slice none 0 0, .slice none 0 0]).alloc (.cells #[.int .i64 0, .int .i64 0, .int .i64 0, .bool false, .int .u8 0, .slice none 0 0, .slice none 0 0] 26)
                  simp only [World.size_alloc] at h
                  exact h)
                have HAA := Lib.hid (show Bk ((((w.alloc (.cells #[.int .u8 1, .slice (some ⟨g, 0, none⟩) n cap] 43)).alloc (.cells #[.int .i64 0, .int .i64 0, .int .i64 0, .bool false, .int .u8 0, .slice none 0 0, .slice none 0 0] 26)).alloc (.cells #[.int .i64 0, .int .i64 0, .int .i64 0, .bool false, .int .u8 0, .slice none 0 0, .slice none 0 0] 26)).drew) (w.heap.size + 1 + 1) 26 #[.int .i64 0, .int .i64 0, .int .i64 0, .bool false, .int .u8 0, .slice none 0 0, .slice none 0 0] from by
                  have h := Bk.new ((w.alloc (.cells #[.int .u8 1, .slice (some ⟨g, 0, none⟩) n cap] 43)).alloc (.cells #[.int .i64 0, .int .i64 0, .int .i64 0, .bool false, .int .u8 0, .slice none 0 0, .slice none 0 0] 26)) 26 #[.int .i64 0, .int .i64 0, .int .i64 0, .bool false, .int .u8 0, .slice none 0 0, .slice none 0 0]
                  simp only [World.size_alloc] at h
                  exact h)
                have HW3 := Lib.hid (show Below w.heap.size w ((((w.alloc (.cells #[.int .u8 1, .slice (some ⟨g, 0, none⟩) n cap] 43)).alloc (.cells #[.int .i64 0, .int .i64 0, .int .i64 0, .bool false, .int .u8 0, .slice none 0 0, .slice none 0 0] 26)).alloc (.cells #[.int .i64 0, .int .i64 0, .int .i64 0, .bool false, .int .u8 0, .slice none 0 0, .slice none 0 0] 26)).drew) from ((((Below.refl _ _).alloc (Nat.le_refl _) _).alloc (by simp) _).alloc (by simp; omega) _).drew)
                have hrow3 : BRow ((((w.alloc (.cells #[.int .u8 1, .slice (some ⟨g, 0, none⟩) n cap] 43)).alloc (.cells #[.int .i64 0, .int .i64 0, .int .i64 0, .bool false, .int .u8 0, .slice none 0 0, .slice none 0 0] 26)).alloc (.cells #[.int .i64 0, .int .i64 0, .int .i64 0, .bool false, .int .u8 0, .slice none 0 0, .slice none 0 0] 26)).drew) (.slice (some A4) (n - 3) (cap - 3)) r2 := HROW.out _ (HW3.out.block g hz)
                have HROW3 := Lib.hid hrow3
                clear hrow3
                go_enter Tryd.func22, Tryd.ntmps22
                go_wp2_with (first | (go_at_call 45; refine (rcmd_any _ hb1 _).mono ?_; rintro e w' ⟨rfl, rfl⟩; rw [HCM.out]))
                go_region_with (first | (go_at_call 14; refine (copy_any _ r2 _ HROW3.out hdlen).mono ?_; rintro e w2 ⟨v5, rfl, ho, _, h2⟩; obtain ⟨av, cv, rfl⟩ := BOwn_form ho; have HO2 := Lib.hid ho; have H2 := Lib.hid (HW3.out.trans (h2.mono (by simp; omega))); have HB2 := Lib.hid (HBB.out.below h2 (by simp)); have HA2 := Lib.hid (HAA.out.below h2 (by simp)); have hsz2 : w.heap.size + 2 < w2.heap.size := (by have := h2.size; simp at this; omega); have hcg : ∀ i, w2.cell? ⟨g, i, none⟩ = w.cell? ⟨g, i, none⟩ := (fun i => (H2.out.cell (p := ⟨g, i, none⟩) hz)); obtain ⟨d0, d1, d2, d3, d4, d5, d6⟩ := cells7 HB2.out; obtain ⟨f0, f1, f2, f3, f4, f5, f6⟩ := frozen7 HB2.out; obtain ⟨p0, p1, p2, p3, p4, p5, p6⟩ := cells7 HA2.out; obtain ⟨q0, q1, q2, q3, q4, q5, q6⟩ := frozen7 HA2.out; clear h2 ho))
                all_goals
                  go_wp2
                  clear d0 d1 d2 d3 d4 d5 d6 f0 f1 f2 f3 f4 f5 f6 p0 p1 p2 p3 p4 p5 p6 q0 q1 q2 q3 q4 q5 q6 hcg
                  exact bodyPost_ret (v := .tuple #[.agg #[.int .i64 0, .int .i64 0, .int .i64 0, .bool false, .int .u8 0, .slice none 0 0, .slice none 0 0], .int .i64 1]) (results_struct_tmp (p := 2) (q := 3) rfl _ _ (w.heap.size + 1) 26 _ _ _ rfl (Bk_fill7 (Bk.far (Bk.far (Bk.far HB2.out (p := ⟨w.heap.size + 1 + 1, _, none⟩) (by simp) _) (p := ⟨w.heap.size + 1 + 1, _, none⟩) (by simp) _) (p := ⟨w.heap.size + 1 + 1, _, none⟩) (by simp) _) _ _ _ _ _ _ _) Tryd.underlying26 rfl (by kernel_rfl)) rfl ⟨by rw [HR.out]; exact ActEnd_of _ _ _ _ _ _ BOwn_nil BOwn_nil, below_fill7 (Below.setCell (Below.setCell (Below.setCell H2.out (p := ⟨w.heap.size + 1 + 1, _, none⟩) (by show _ ≤ w.heap.size + 1 + 1; omega) _) (p := ⟨w.heap.size + 1 + 1, _, none⟩) (by show _ ≤ w.heap.size + 1 + 1; omega) _) (p := ⟨w.heap.size + 1 + 1, _, none⟩) (by show _ ≤ w.heap.size + 1 + 1; omega) _) (by omega) _ _ _ _ _ _ _⟩
          · have HR := Lib.hid (show readsOf (x0 :: 3 :: x2 :: r2) = (A0, 4) by rw [HU.out, if_neg (by decide), if_pos rfl, if_pos hn]; exact if_neg hq)
            have hr0 : ((x2 : Int) != 0) = true := bne_iff_ne.2 (fun e => hq (.inl (by omega)))
            have hr1 : ((x2 : Int) != 64) = true := bne_iff_ne.2 (fun e => hq (.inr (.inl (by omega))))
            have hr2 : ((x2 : Int) != 128) = true := bne_iff_ne.2 (fun e => hq (.inr (.inr (by omega))))
            clear hn hd3 hq2 hq3 hcr hq
            go_enter Tryd.func22, Tryd.ntmps22
            go_wp2_with (go_at_call 45; refine (rcmd_any _ hb1 _).mono ?_; rintro e w' ⟨rfl, rfl⟩; rw [HCM.out])
            exact bodyPost_ret (v := .tuple #[.agg #[.int .i64 0, .int .i64 0, .int .i64 0, .bool false, .int .u8 0, .slice none 0 0, .slice none 0 0], .int .i64 4]) (by simp [results, Tryd.results22, go_sem]) rfl ⟨by rw [HR.out]; exact ActEnd_of _ _ _ _ _ _ BOwn_nil BOwn_nil, ((((Below.refl _ _).alloc (Nat.le_refl _) _).alloc (by simp) _).alloc (by simp; omega) _)⟩
        · have HR := Lib.hid (show readsOf (x0 :: 3 :: r) = (A0, 4) by rw [HU.out, if_neg (by decide), if_pos rfl, if_neg hn])
          have hqn : decide ((n : Int) < 3) = true := by rw [hd3]; exact decide_eq_true (by omega)
          clear hn hd3 hq2 hq3 hcr
          go_enter Tryd.func22, Tryd.ntmps22
          go_wp2_with (go_at_call 45; refine (rcmd_any _ hb1 _).mono ?_; rintro e w' ⟨rfl, rfl⟩; rw [HCM.out])
          exact bodyPost_ret (v := .tuple #[.agg #[.int .i64 0, .int .i64 0, .int .i64 0, .bool false, .int .u8 0, .slice none 0 0, .slice none 0 0], .int .i64 4]) (by simp [results, Tryd.results22, go_sem]) rfl ⟨by rw [HR.out]; exact ActEnd_of _ _ _ _ _ _ BOwn_nil BOwn_nil, ((((Below.refl _ _).alloc (Nat.le_refl _) _).alloc (by simp) _).alloc (by simp; omega) _)⟩
      · have hxe3 : ((x1 : Int) == 3) = false := beq_eq_false_iff_ne.2 (by omega)
        obtain ⟨c, hcm⟩ : ∃ c, c = cmdOf x1 := ⟨_, rfl⟩
        have HCM := Lib.hid hcm.symm
        have HUU := Lib.hid (show readsOf (x0 :: x1 :: r) = (if isRead c then (if n = 2 then partOf (aRead c) x0 0 else (A0, 4)) else (A0, 4)) by rw [HU.out, if_neg e2, if_neg e3, hcm])
        rw [← hcm] at hcr
        by_cases hrd : isRead c
        · have hd5 : decide (5 ≤ c) = true := decide_eq_true hrd.1
          have hd7 : decide (c ≤ 7) = true := decide_eq_true hrd.2
          by_cases hn : n = 2
          · have hqn : ((n : Int) == 2) = true := by rw [hq2]; exact decide_eq_true hn
            by_cases hx0 : x0 = 0
            · subst hx0
              have HR := Lib.hid (show readsOf (0 :: x1 :: r) = (aRead c, 0) by rw [HUU.out, if_pos hrd, if_pos hn, partOf_eq rfl])
              clear hn hd3 hq2 hq3 hcr e2 e3 hcm hrd
              go_enter Tryd.func22, Tryd.ntmps22
              go_wp2_with (go_at_call 45; refine (rcmd_any _ hb1 _).mono ?_; rintro e w' ⟨rfl, rfl⟩; rw [HCM.out])
              exact bodyPost_ret (v := .tuple #[.agg #[.int .i64 3, .int .i64 c, .int .i64 0, .bool false, .int .u8 0, .slice none 0 0, .slice none 0 0], .int .i64 0]) (by simp [results, Tryd.results22, go_sem]) rfl ⟨by rw [HR.out]; exact ActEnd_of _ _ _ _ _ _ BOwn_nil BOwn_nil, ((((Below.refl _ _).alloc (Nat.le_refl _) _).alloc (by simp) _).alloc (by simp; omega) _)⟩
            · have HR := Lib.hid (show readsOf (x0 :: x1 :: r) = (A0, 1) by rw [HUU.out, if_pos hrd, if_pos hn, partOf_ne hx0])
              have hq0 : ((x0 : Int) != 0) = true := bne_iff_ne.2 (by omega)
              clear hn hd3 hq2 hq3 hcr e2 e3 hcm hrd hx0
              go_enter Tryd.func22, Tryd.ntmps22
              go_wp2_with (go_at_call 45; refine (rcmd_any _ hb1 _).mono ?_; rintro e w' ⟨rfl, rfl⟩; rw [HCM.out])
              exact bodyPost_ret (v := .tuple #[.agg #[.int .i64 0, .int .i64 0, .int .i64 0, .bool false, .int .u8 0, .slice none 0 0, .slice none 0 0], .int .i64 1]) (by simp [results, Tryd.results22, go_sem]) rfl ⟨by rw [HR.out]; exact ActEnd_of _ _ _ _ _ _ BOwn_nil BOwn_nil, ((((Below.refl _ _).alloc (Nat.le_refl _) _).alloc (by simp) _).alloc (by simp; omega) _)⟩
          · have HR := Lib.hid (show readsOf (x0 :: x1 :: r) = (A0, 4) by rw [HUU.out, if_pos hrd, if_neg hn])
            have hqn : ((n : Int) == 2) = false := by rw [hq2]; exact decide_eq_false hn
            clear hn hd3 hq2 hq3 hcr e2 e3 hcm hrd
            go_enter Tryd.func22, Tryd.ntmps22
            go_wp2_with (go_at_call 45; refine (rcmd_any _ hb1 _).mono ?_; rintro e w' ⟨rfl, rfl⟩; rw [HCM.out])
            exact bodyPost_ret (v := .tuple #[.agg #[.int .i64 0, .int .i64 0, .int .i64 0, .bool false, .int .u8 0, .slice none 0 0, .slice none 0 0], .int .i64 4]) (by simp [results, Tryd.results22, go_sem]) rfl ⟨by rw [HR.out]; exact ActEnd_of _ _ _ _ _ _ BOwn_nil BOwn_nil, ((((Below.refl _ _).alloc (Nat.le_refl _) _).alloc (by simp) _).alloc (by simp; omega) _)⟩
        · have HR := Lib.hid (show readsOf (x0 :: x1 :: r) = (A0, 4) by rw [HUU.out, if_neg hrd])
          have hdd : decide (5 ≤ c) = false ∨ (decide (5 ≤ c) = true ∧ decide (c ≤ 7) = false) := by
            by_cases h5 : 5 ≤ c
            · exact .inr ⟨decide_eq_true h5, decide_eq_false fun h7 => hrd ⟨h5, h7⟩⟩
            · exact .inl (decide_eq_false h5)
          clear hd3 hq2 hq3 hcr e2 e3 hcm hrd
          rcases hdd with hd5 | ⟨hd5, hd7⟩
          all_goals
            go_enter Tryd.func22, Tryd.ntmps22
            go_wp2_with (go_at_call 45; refine (rcmd_any _ hb1 _).mono ?_; rintro e w' ⟨rfl, rfl⟩; rw [HCM.out])
            exact bodyPost_ret (v := .tuple #[.agg #[.int .i64 0, .int .i64 0, .int .i64 0, .bool false, .int .u8 0, .slice none 0 0, .slice none 0 0], .int .i64 4]) (by simp [results, Tryd.results22, go_sem]) rfl ⟨by rw [HR.out]; exact ActEnd_of _ _ _ _ _ _ BOwn_nil BOwn_nil, ((((Below.refl _ _).alloc (Nat.le_refl _) _).alloc (by simp) _).alloc (by simp; omega) _)⟩

end Go.Proofs.YtcibhchbgendaaaDoor.Sf
