/- The walk of the law SfieldBytes. -/
import Derived.Test.YtcibhchbgendaaaDoorSfAwake
import Derived.Test.YtcibhchbgendaaaDoorSfBytes
namespace Go.Proofs.YtcibhchbgendaaaDoor.Sf
open Go Go.RowKit Go.Proofs.YtcibhchbgendaaaDoor.By

theorem flat_rep (pl : List Nat) (k : Nat) : (List.replicate (k + 1) pl).flatten = (List.replicate k pl).flatten ++ pl := by
  rw [List.replicate_succ']
  simp
theorem flat_len (pl : List Nat) (k : Nat) : (List.replicate k pl).flatten.length = k * pl.length := by simp
theorem flat_bound (pl : List Nat) (k : Nat) (h : ∀ n ∈ pl, n < 256) : ∀ n ∈ (List.replicate k pl).flatten, n < 256 := by
  intro n hn
  simp only [List.mem_flatten, List.mem_replicate] at hn
  obtain ⟨l, ⟨_, rfl⟩, hn⟩ := hn
  exact h n hn
theorem BOwn_win {B : Nat} {w : World} {g n cap : Nat} {l : List Nat} (h : BOwn B w (.slice (some ⟨g, 0, none⟩) n cap) l) : Win w g 0 cap l ∧ n = l.length := by
  have hn : n = l.length := by
    obtain ⟨a, c, e⟩ := BOwn_form h
    injection e
  refine ⟨⟨?_, ?_, fun i k hi => by rw [Nat.zero_add]; exact BOwn_cell h hi, h.1⟩, hn⟩
  · rcases h.row with ⟨e, _⟩ | ⟨a, c, e, h4, h5, _⟩
    · cases e
    · injection e with e1 e2 e3; omega
  · rcases h.row with ⟨e, _⟩ | ⟨a, c, e, h4, h5, _⟩
    · cases e
    · injection e with e1 e2 e3; omega

set_option maxHeartbeats 8000000 in
set_option maxRecDepth 100000 in
theorem sfieldBytes_walk (id t : Nat) (hid : id < 256) (ht : t < 256) (x : Value) (l : List Nat) (w : World) (hx : BRow w x l) (hc : Cmds w) :
    Calls Tryd.prog 4 #[.int .u8 id, x, .int .u8 t] w fun e w' => e = .returned (.bool true) ∧ Below w.heap.size w w' := by
  obtain ⟨i0, hi, hz0, hz1, hz2⟩ := info_parts u8_info
  have HX := Lib.hid hx
  have HC := Lib.hid hc
  clear hx hc
  obtain ⟨r, hr, hr40⟩ : ∃ r : Nat, (t : Int) % 40 = r ∧ r < 40 := ⟨t % 40, by omega, by omega⟩
  go_enter Tryd.func4, Tryd.ntmps4
  go_wp2_with fail
  refine (awake_any _ HC.out).mono ?_
  rintro e w1 ⟨rfl, h1⟩
  have HW1 := Lib.hid h1
  clear h1
  go_wp2_with fail
  refine (cut_any x l 300 (by decide) _ (HX.out.below HW1.out (Nat.le_refl _))).mono ?_
  rintro e w2 ⟨y, rfl, hy, hyn, h2⟩
  obtain ⟨pl, hpl⟩ : ∃ pl, l.take 300 = pl := ⟨_, rfl⟩
  rw [hpl] at hy
  have hpl3 : pl.length ≤ 300 := by rw [← hpl, List.length_take]; omega
  obtain ⟨gp, cp, rfl⟩ : ∃ gp cp, y = .slice (some ⟨gp, 0, none⟩) pl.length cp := by
    obtain ⟨_, _, h | ⟨g, cap, cur, h, _⟩⟩ := hy
    · exact absurd h.1 hyn
    · exact ⟨g, cap, h⟩
  have HY := Lib.hid hy
  have HW2 := Lib.hid (HW1.out.trans (h2.mono HW1.out.size))
  have hgp : gp < w2.heap.size := by
    rcases hy.lt with h | ⟨g, n, c, h, _, hlt⟩
    · cases h
    · injection h with h; injection h with h; injection h with h; subst h; exact hlt
  have hw2s : w.heap.size ≤ w2.heap.size := HW2.out.size
  clear hy hyn h2 hpl HX
  go_wp2_with fail
  have HR40 := Lib.hid hr
  clear hr
  go_loopw [7, 21] (fun v i wr => ∃ k : Nat, k ≤ 1 + r ∧ i = .int .u8 k ∧ BOwn w2.heap.size wr v (List.replicate k pl).flatten ∧ Below w2.heap.size w2 wr) (fun _ i _ => 1 + r - (intOf i).toNat)
  case atStart => exact ⟨0, by omega, rfl, BOwn_nil, Below.refl _ _⟩
  case round =>
    obtain ⟨k, hk, rfl, hv, hb⟩ := hrel
    obtain ⟨av, cv, rfl⟩ := BOwn_form hv
    have HV := Lib.hid hv
    have HB := Lib.hid hb
    have HL := Lib.hid (flat_len pl k)
    have hkl : k * pl.length ≤ 12000 := Nat.le_trans (Nat.mul_le_mul (show k ≤ 40 by omega) hpl3) (by decide)
    have hsz := hb.size
    obtain ⟨n, hn⟩ : ∃ n, n = (List.replicate k pl).flatten.length := ⟨_, rfl⟩
    have HN := Lib.hid hn
    rw [← hn] at HV ⊢
    have hn2 : n ≤ 12000 := by rw [hn, HL.out]; exact hkl
    clear hv hb hn hkl
    by_cases hlt : k < 1 + r
    · have hdk : decide ((k : Int) < 1 + (r : Int)) = true := decide_eq_true (by omega)
      have HYr := Lib.hid (show BOwn w.heap.size wr (.slice (some ⟨gp, 0, none⟩) pl.length cp) pl from HY.out.lower HW1.out.size |>.keep fun g n c e => by injection e with e; injection e with e; injection e with e; subst e; exact HB.out.block gp hgp)
      have hcl : ∀ j u, (pl.map bv)[j]? = some u → wr.cell? ((⟨gp, 0, none⟩ : Addr).add j) = some u := bv_cells fun i k hk => by rw [addr_add0, Nat.zero_add]; exact BOwn_cell HYr.out hk
      have HCL := Lib.hid hcl
      have hxl : ((List.replicate k pl).flatten.map bv).length = n := by rw [List.length_map]; exact HN.out.symm
      have HXL := Lib.hid hxl
      clear hcl hxl
      go_wp2_with (at_builtin; refine wpList_append_own _ rfl _ _ 23 rfl w2.heap.size 5 i0 (.int .u8 0) 1 1 Tryd.underlying23 hi hz0 hz1 hz2 rfl (by decide) (.slice av n cv) n ((List.replicate k pl).flatten.map bv) rfl (HN.out ▸ (HN.out ▸ HV.out).2) ⟨gp, 0, none⟩ pl.length cp (pl.map bv) rfl (by simp) HCL.out (fun u hu => bv_cell u pl hu) (by unfold maxLen; omega) (by omega) hsz ?_; intro v' w3 hown hgrow hnil)
      go_roundw
      case rel =>
        refine ⟨k + 1, by omega, by go_num, ⟨?_, ?_⟩, HB.out.grown hgrow hsz (fun j hj => (HV.out.2.lt j hj).1)⟩
        · exact flat_bound pl (k + 1) HYr.out.1
        · rw [flat_rep, List.length_append, ← HN.out, List.map_append]
          exact hown
      case measure => simp [intOf]; omega
    · obtain rfl : k = 1 + r := by omega
      have hdk : decide (((1 + r : Nat) : Int) < 1 + (r : Int)) = false := decide_eq_false (by omega)
      obtain ⟨dl, hdl⟩ : ∃ dl, dl = (List.replicate (1 + r) pl).flatten := ⟨_, rfl⟩
      rw [← hdl] at HV HN
      have hdn : dl.length = n := HN.out.symm
      have HD2 := Lib.hid (show BOwn w2.heap.size wr (.slice av n cv) dl from HV.out)
      have HCr := Lib.hid (HC.out.below (HW2.out.trans (HB.out.mono hw2s)) HC.out.lt)
      have HWr := Lib.hid (HW2.out.trans (HB.out.mono hw2s))
      clear hdl HV HN
      subst hdn
      go_wp2_with fail
      have hm := mbytes_any id hid _ _ dl _ HD2.out (by omega)
      have hr0 := fun W (h : BOwn w2.heap.size W (.slice av dl.length cv) dl) => rbytes_any id hid _ _ dl W h (by omega)
      by_cases hbig : 8192 < 3 + dl.length
      all_goals
        first
        | (rw [if_pos hbig, if_pos hbig] at hm; simp only [if_pos hbig] at hr0)
        | (rw [if_neg hbig, if_neg hbig] at hm; simp only [if_neg hbig] at hr0)
        have HM := Lib.hid hm
        have HRR := Lib.hid hr0
        have HBIG := Lib.hid hbig
        clear hm hr0 hbig
        refine HM.out.mono ?_
        rintro e w3 ⟨⟨v3, rfl, h3⟩, h4⟩
        obtain ⟨a3, c3, rfl⟩ := BOwn_form h3
        have HB3 := Lib.hid h3
        have HD3 := Lib.hid (HD2.out.below h4 (Nat.le_refl _))
        have HCC := Lib.hid (HCr.out.below' h4)
        have HW3 := Lib.hid (HWr.out.trans (h4.mono HWr.out.size))
        have HL3 := Lib.hid h4.size
        clear h3 h4
        go_wp2_with fail
        refine (HRR.out _ HD3.out).mono ?_
        rintro e w4 ⟨⟨v4, rfl, h3⟩, h4⟩
        obtain ⟨a4, c4, rfl⟩ := BOwn_form h3
        have HR4 := Lib.hid h3
        have HB4 := Lib.hid (HB3.out.below h4 (Nat.le_refl _))
        have HD4 := Lib.hid (HD3.out.below h4 (Nat.le_refl _))
        have HC4 := Lib.hid (HCC.out.below' h4)
        have HW4 := Lib.hid (HW3.out.trans (h4.mono HW3.out.size))
        have HL4 := Lib.hid h4.size
        clear h3 h4
        go_wp2_with fail
        refine (same_any _ _ _ _ _ HB4.out.row HR4.out.row).mono ?_
        rintro e w5 ⟨rfl, rfl⟩
        rw [decide_eq_true rfl]
      · go_wp2_with fail
        go_ret
        exact ⟨rfl, HW4.out⟩
      · obtain ⟨bl, hbl⟩ : ∃ bl, bl = bytesOf (id, dl) := ⟨_, rfl⟩
        have hl8 : 3 + dl.length ≤ 8192 := by have := HBIG.out; omega
        have hbln : bl.length = 3 + dl.length := by rw [hbl]; unfold bytesOf; simp; omega
        have HBL := Lib.hid hbl
        rw [← hbl] at HB4 ⊢
        obtain ⟨n3, hn3⟩ : ∃ n3, n3 = bl.length := ⟨_, rfl⟩
        rw [← hn3] at HB4 ⊢
        have HN3 := Lib.hid hn3
        have hn3l : n3 ≤ 8192 := by omega
        have hw5s : wr.heap.size ≤ w5.heap.size := Nat.le_trans HL3.out HL4.out
        have hxl3 : (bl.map bv).length = n3 := by rw [List.length_map]; exact hn3.symm
        have HXL3 := Lib.hid hxl3
        have hwrs : w2.heap.size ≤ wr.heap.size := hsz
        clear hbl hbln hn3 hxl3
        go_wp2_with (at_builtin; refine wpList_append_own _ rfl _ _ 23 rfl wr.heap.size 5 i0 (.int .u8 0) 1 1 Tryd.underlying23 hi hz0 hz1 hz2 rfl (by decide) (.slice a3 n3 c3) n3 (bl.map bv) rfl ((HN3.out ▸ (HN3.out ▸ HB4.out).2).alloc _) ⟨w5.heap.size, 0, none⟩ 3 3 [.int .u8 0, .int .u8 3, .int .u8 7] rfl rfl (cells_lit w5 [.int .u8 0, .int .u8 3, .int .u8 7] _) (by intro u hu; simp at hu; rcases hu with rfl | rfl | rfl <;> rfl) (by unfold maxLen; omega) (by omega) (by simp; omega) ?_; intro v6 w6 hown hgrow hnil; obtain ⟨g6, c6, rfl⟩ := ownsRow_succ hown)
        have hbo : BOwn wr.heap.size w6 (.slice (some ⟨g6, 0, none⟩) (n3 + 2 + 1) c6) (bl ++ [0, 3, 7]) := by
          have hlen : (bl ++ [0, 3, 7]).length = n3 + 3 := by rw [List.length_append, ← HN3.out]; rfl
          refine ⟨?_, by rw [hlen, List.map_append]; exact hown⟩
          intro k hk
          rcases List.mem_append.1 hk with hk | hk
          · exact HB4.out.1 k hk
          · simp at hk; omega
        obtain ⟨hwin, hln⟩ := BOwn_win hbo
        have hb6 : Below wr.heap.size w5 w6 := ((Below.refl _ _).alloc (by omega) _).grown hgrow (by simp; omega) (fun j hj => (HB4.out.2.lt j hj).1)
        have hD6 : BOwn w2.heap.size w6 (.slice av dl.length cv) dl := HD4.out.keep fun g n c e => hb6.block g (by
          rcases HD2.out.lt with h | ⟨g', n', c', h, _, hlt⟩
          · rw [h] at e; cases e
          · rw [h] at e; injection e with e; injection e with e; injection e with e; subst e; exact hlt)
        have hg6 : g6 < w6.heap.size := by
          rcases hbo.lt with h | ⟨g', n', c', h, _, hlt⟩
          · cases h
          · injection h with h; injection h with h; injection h with h; subst h; exact hlt
        have hll : (bl ++ [0, 3, 7]).length ≤ 1000000 := by rw [← hln]; omega
        have hfa := fields_any g6 0 c6 10 (bl ++ [0, 3, 7]) w6 hwin hll (by decide) (by decide) hg6
        rw [← hln] at hfa
        have hft := fields_two (id, dl) (show 3 + dl.length ≤ 65535 by omega)
        rw [← HBL.out] at hft
        have hce : cutErr 10 (bl ++ [0, 3, 7]) = 0 := by unfold cutErr; rw [hft.1, hft.2]; rfl
        rw [hft.1, hce] at hfa
        have HFA := Lib.hid hfa
        have HD6 := Lib.hid hD6
        have HW6 := Lib.hid (HW4.out.trans (hb6.mono (by have := HW2.out.size; omega)))
        have hw6s : w2.heap.size ≤ w6.heap.size := Nat.le_trans (Nat.le_trans hwrs hw5s) hb6.size
        clear hbo hwin hln hb6 hD6 hg6 hll hfa hft hce hown hgrow hnil
        refine HFA.out.mono ?_
        rintro e w7 ⟨⟨v7, xs, rfl, hfr, hfx⟩, h7⟩
        obtain ⟨a7, c7, rfl⟩ := row_form hfr.1
        have HD7 := Lib.hid (HD6.out.below h7 (Nat.le_refl _))
        have HW7 := Lib.hid (HW6.out.trans (h7.mono HW6.out.size))
        have HFR := Lib.hid hfr
        have HFX := Lib.hid hfx
        have hw7s : w2.heap.size ≤ w7.heap.size := Nat.le_trans hw6s h7.size
        have hxs2 : xs.length = 2 := by have h := congrArg List.length hfx; simpa using h
        have HXS2 := Lib.hid hxs2
        clear hfr hfx h7 hxs2
        have HA8 := Lib.hid (show Below w7.heap.size w7 (w7.alloc (.cells #[.int .u8 (id : Int), .slice av dl.length cv, .int .u8 7, .slice none 0 0] 43)) from (Below.refl _ _).alloc (Nat.le_refl _) _)
        have HF1 := Lib.hid (FRow_below HFR.out HA8.out)
        have HF2 := Lib.hid (show FRow 43 w2.heap.size (w7.alloc (.cells #[.int .u8 (id : Int), .slice av dl.length cv, .int .u8 7, .slice none 0 0] 43)) (.slice (some ⟨w7.heap.size, 0, none⟩) 2 2) [⟨id, .slice av dl.length cv, dl, 0⟩, ⟨7, .slice none 0 0, [], 0⟩] from
          ⟨⟨rfl, .inr ⟨w7.heap.size, 2, _, rfl, hw7s, heap_alloc_new w7 _, Nat.le_refl _, by simp [maxLen], rfl, rfl⟩⟩, fun x hx => by
            simp at hx
            rcases hx with rfl | rfl
            · exact ⟨hid, HD7.out.below HA8.out (Nat.le_refl _)⟩
            · exact ⟨by decide, BOwn_nil⟩⟩)
        go_wp2_with fail
        refine (lsame_any _ _ _ _ _ _ xs _ _ HF1.out HF2.out).mono ?_
        rintro e w8 ⟨rfl, n8, rfl⟩
        rw [decide_eq_true (show xs.map El.fd = [(⟨id, .slice av dl.length cv, dl, 0⟩ : El), ⟨7, .slice none 0 0, [], 0⟩].map El.fd from HFX.out)]
        go_wp2_with fail
        go_ret
        exact ⟨rfl, bl_drewN (HW7.out.trans (HA8.out.mono HW7.out.size)) _⟩

theorem byte_nat5 {x : Int} (h : (Lit.int .u8 x).wf = true) : ∃ n : Nat, n < 256 ∧ x = n := by
  simp only [Lit.wf, show IntKind.u8.min = 0 from rfl, show IntKind.u8.max = 255 from rfl] at h
  simp only [Bool.and_eq_true, decide_eq_true_eq] at h
  exact ⟨x.toNat, by omega, by omega⟩
theorem sfieldBytes_any (k : Int) (a : Option Addr) (len cap : Nat) (zs : List Int) (x : Int) (w : World) (hk : (Lit.int .u8 k).wf = true) (hr : IsRow .u8 w a len cap zs) (hx : (Lit.int .u8 x).wf = true) (hc : Cmds w) :
    Calls Tryd.prog 4 #[.int .u8 k, .slice a len cap, .int .u8 x] w fun e w' => e = .returned (.bool true) ∧ Below w.heap.size w w' := by
  obtain ⟨n, hn, rfl⟩ := byte_nat5 hk
  obtain ⟨m, hm, rfl⟩ := byte_nat5 hx
  obtain ⟨l, _, hl⟩ := hr.bytes
  exact sfieldBytes_walk n m hn hm _ l w hl hc
end Go.Proofs.YtcibhchbgendaaaDoor.Sf
