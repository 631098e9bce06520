/- The walk of vitrineref21.All at bytes that don't begin their block. -/
import Derived.Test.YtcibhchbgendaabSfRAll
import Derived.Test.YtcibhchbgendaabQyPure
import Derived.Deep.QuietTactic
import Derived.BigQuiet
import Derived.RegionTactic
import Derived.BigRegion
import Derived.Deep.RegionHeld3
namespace Go.Proofs.Ytcibhchbgendaab.Qy
open Go Go.RowKit Go.Proofs.Ytcibhchbgendaab.By Go.Proofs.Ytcibhchbgendaab.Sf

/-- bytes from a place of a block on -/
def WB (w : World) (g o n cap : Nat) (l : List Nat) : Prop := Win w g o cap l ∧ n = l.length ∧ g < w.heap.size
theorem WB.below {w w' : World} {g o n cap B : Nat} {l : List Nat} (h : WB w g o n cap l) (hb : Below B w w') (hB : w.heap.size ≤ B) : WB w' g o n cap l := ⟨h.1.keep (hb.block g (by have := h.2.2; omega)), h.2.1, by have := h.2.2; have := hb.size; omega⟩
theorem WB_cell {w : World} {g o n cap : Nat} {l : List Nat} (h : WB w g o n cap l) {i x : Nat} (hi : l[i]? = some x) : w.cell? ⟨g, o + i, none⟩ = some (.int .u8 x) := h.1.2.2.1 i x hi
theorem WB_cap {w : World} {g o n cap : Nat} {l : List Nat} (h : WB w g o n cap l) : n ≤ cap ∧ cap ≤ maxLen := ⟨by have := h.1.1; have := h.2.1; omega, h.1.2.1⟩
theorem WB_mid {w : World} {g o n cap : Nat} {l : List Nat} (h : WB w g o n cap l) (i j : Nat) (hij : i ≤ j) (hj : j ≤ n) : ∃ A4 : Addr, (if cap = i then some (⟨g, o, none⟩ : Addr) else some ⟨g, o + i, none⟩) = some A4 ∧
    (∀ W : World, W.heap[g]? = w.heap[g]? → BRow W (.slice (some A4) (j - i) (cap - i)) ((l.take j).drop i)) ∧
    ∀ (w : World) (x y : Int), x = i → y = j → (Instr.slice 22 (.slice (some ⟨g, o, none⟩) n cap) (some (.int .i64 x)) (some (.int .i64 y)) none).run Try.prog w = .ok (.slice (some A4) (j - i) (cap - i)) w := by
  have hn := h.2.1
  have hcap := WB_cap h
  refine ⟨if cap = i then ⟨g, o, none⟩ else ⟨g, o + i, none⟩, by split <;> simp, fun W hW => ?_, fun w x y hx hy => ?_⟩
  · have hw : Win W g o cap l := h.1.keep hW
    have hlen : ((l.take j).drop i).length = j - i := by simp; omega
    refine .inr ⟨_, cap - i, by rw [hlen], by omega, by omega, fun k x hx => ?_, fun x hx => h.1.2.2.2 x (List.mem_of_mem_take (List.mem_of_mem_drop hx))⟩
    have hk : k < ((l.take j).drop i).length := (List.getElem?_eq_some_iff.1 hx).1
    rw [if_neg (by omega), addr_add0]
    rw [List.getElem?_drop, List.getElem?_take, if_pos (by omega)] at hx
    rw [Nat.add_assoc]
    exact hw.2.2.1 (i + k) x hx
  · subst hx hy
    rw [run_slice_lh w 22 (some ⟨g, o, none⟩) n cap (by kernel_rfl) .i64 .i64 i j (by omega) (by omega) (by omega)]
    have hz : (sizeOf (Try.prog.elem 22)).run Try.prog w = .ok 1 w := by kernel_rfl
    rw [hz]
    simp only [Result.andThen, sliced]
    by_cases e : cap = i
    · simp [e]
    · simp [e, addr_add0]

set_option maxHeartbeats 8000000 in
set_option maxRecDepth 100000 in
theorem rallw_any (g o cap : Nat) (l : List Nat) (w : World) (hv : WB w g o l.length cap l) (h47 : l.length ≤ 1000000) :
    Calls Try.prog 79 #[.slice (some ⟨g, o, none⟩) l.length cap] w fun e w' => FEnd 140 (fieldsOf l) (endOf l) w.heap.size e w' ∧ Below w.heap.size w w' := by
  obtain ⟨i0, hi, hz0, hz1, hz2⟩ := info_parts field_info
  have HV := Lib.hid hv
  obtain ⟨n, hn⟩ : ∃ n, n = l.length := ⟨_, rfl⟩
  rw [← hn] at HV h47 ⊢
  have HN := Lib.hid hn
  clear hv hn
  go_enter Try.func79, Try.ntmps79
  go_wp2_with fail
  go_loopw [4, 5] (fun vo i wr => ∃ (k : Nat) (pre : List El), k ≤ n ∧ i = .int .i64 k ∧ FRow 140 w.heap.size wr vo pre ∧ (∀ x ∈ pre, x.e = 0) ∧ pre.map El.gh ++ elsOf (l.drop k) = elsOf l ∧ Below w.heap.size w wr ∧ pre.length ≤ k) (fun _ i _ => n - (intOf i).toNat)
  case atStart => exact ⟨0, [], Nat.zero_le _, rfl, ⟨World.ownsRow_nil _ _ _ _, by simp⟩, by simp, by simp, Below.refl _ _, by simp⟩
  case round =>
    obtain ⟨k, pre, hk, rfl, hf, he, hels, hb, hpk⟩ := hrel
    obtain ⟨ao, co, rfl⟩ := row_form hf.1
    have HF := Lib.hid hf
    have HE := Lib.hid he
    have HELS := Lib.hid hels
    have HB := Lib.hid hb
    have hsz := hb.size
    clear hf he hels hb
    have HVr := Lib.hid (HV.out.below HB.out (Nat.le_refl _))
    by_cases hlt : k < n
    · have hln : (l.drop k).length = n - k := by rw [List.length_drop, ← HN.out]
      have hne : l.drop k ≠ [] := fun h => by rw [h] at hln; simp at hln; omega
      obtain ⟨left, hleft⟩ : ∃ left, left = n - k := ⟨_, rfl⟩
      have hli : (n : Int) - (k : Int) = (left : Int) := by omega
      rw [← hleft] at hln
      by_cases h3 : left < 3
      · have hbad : bad (l.drop k) := by
          unfold bad hdr
          rw [if_neg (by omega), hln]
          exact .inl h3
        have hEE := elsOf_bad hne hbad
        rw [hEE, El.gh_ok HE.out] at HELS
        have ht := told_err (l := l) (fs := pre.map El.fd) (x := (0, [], 2)) (by decide) (by rw [HELS.out]; exact List.prefix_refl _)
        have HT1 := Lib.hid ht.1
        have HT2 := Lib.hid ht.2.1
        have hd3 : decide ((left : Int) < 3) = true := decide_eq_true (by omega)
        clear ht hEE hbad hne hln hleft
        go_wp2_with fail
        go_ret2
        exact ⟨⟨_, pre, by rw [HT2.out]; try rfl, HF.out, HT1.out.symm⟩, HB.out⟩
      · obtain ⟨x0, hx0⟩ : ∃ x, l[k]? = some x := ⟨l[k]'(by have := HN.out; omega), List.getElem?_eq_getElem _⟩
        obtain ⟨x1, hx1⟩ : ∃ x, l[k + 1]? = some x := ⟨l[k + 1]'(by have := HN.out; omega), List.getElem?_eq_getElem _⟩
        obtain ⟨x2, hx2⟩ : ∃ x, l[k + 2]? = some x := ⟨l[k + 2]'(by have := HN.out; omega), List.getElem?_eq_getElem _⟩
        have c0 := WB_cell HVr.out hx0
        have c1 := WB_cell HVr.out hx1
        have c2 := WB_cell HVr.out hx2
        have b0 : x0 < 256 := HV.out.1.2.2.2 x0 (List.mem_of_getElem? hx0)
        have b1 : x1 < 256 := HV.out.1.2.2.2 x1 (List.mem_of_getElem? hx1)
        have b2 : x2 < 256 := HV.out.1.2.2.2 x2 (List.mem_of_getElem? hx2)
        have g0 : (l.drop k).getD 0 0 = x0 := by rw [List.getD_eq_getElem?_getD, List.getElem?_drop, Nat.add_zero, hx0]; rfl
        have g1 : (l.drop k).getD 1 0 = x1 := by rw [List.getD_eq_getElem?_getD, List.getElem?_drop, hx1]; rfl
        have g2 : (l.drop k).getD 2 0 = x2 := by rw [List.getD_eq_getElem?_getD, List.getElem?_drop, hx2]; rfl
        obtain ⟨h0, hh0⟩ : ∃ h, 256 * x0 + x1 = h := ⟨_, rfl⟩
        have hs0 : 256 * (x0 : Int) + (x1 : Int) = (h0 : Int) := by omega
        have hge : decide ((left : Int) < 3) = false := decide_eq_false (by omega)
        have hlg : decide ((k : Int) < (n : Int)) = true := decide_eq_true (by omega)
        have hk1 : k + 1 < n := by omega
        have hk2 : k + 2 < n := by omega
        have d0 : wr.cell? ⟨g, o + k, none⟩ = some (.int .u8 (x0 : Int)) := c0
        have d1 : wr.cell? ⟨g, o + (k + 1), none⟩ = some (.int .u8 (x1 : Int)) := c1
        have d2 : wr.cell? ⟨g, o + (k + 2), none⟩ = some (.int .u8 (x2 : Int)) := c2
        clear c0 c1 c2
        by_cases hz : h0 = 0
        · have hhz : ((h0 : Int) == 0) = true := beq_iff_eq.2 (by omega)
          go_wp2_with fail
          go_quiet (fail)
          have HH := Lib.hid (show hdr (l.drop k) = n - k by unfold hdr; rw [if_neg (by rw [g0, g1]; omega), hln]; omega)
          have HNB := Lib.hid (show ¬ bad (l.drop k) by unfold bad; rw [HH.out, hln]; omega)
          obtain ⟨W0, hW0⟩ : ∃ W0, W0 = wr.drewN nq := ⟨_, rfl⟩
          rw [← hW0]
          have HF0 := Lib.hid (show FRow 140 w.heap.size W0.drew (.slice ao pre.length co) pre by rw [hW0]; exact HF.out)
          have HV0 := Lib.hid (show WB W0.drew g o n cap l by rw [hW0]; exact HVr.out)
          have hS0 : W0.drew.cell? ⟨g, o + (k + 2), none⟩ = some (.int .u8 (x2 : Int)) ∧ Below w.heap.size w W0.drew := ⟨by rw [hW0]; exact d2, (show Below w.heap.size w W0 by rw [hW0]; exact bl_drewN HB.out nq).drew⟩
          have hsz0 : w.heap.size ≤ W0.drew.heap.size := hS0.2.size
          have e2 := hS0.1
          obtain ⟨A4, hA4, hrow4, hsl⟩ := WB_mid HV0.out (k + 3) (k + (n - k)) (by omega) (by omega)
          obtain ⟨dl, hdl⟩ : ∃ dl, dl = (l.take (k + (n - k))).drop (k + 3) := ⟨_, rfl⟩
          rw [← hdl] at hrow4
          have HDL := Lib.hid hdl
          have hcap := WB_cap HV0.out
          obtain ⟨m4, hm4⟩ : ∃ m4, m4 = n - (k + 3) := ⟨_, rfl⟩
          have hm4' : n - (k + 3) = m4 := hm4.symm
          have HM4 := Lib.hid (show k + (n - k) - (k + 3) = m4 by omega)
          rw [HM4.out] at hrow4
          have HR4 := Lib.hid hrow4
          have t2 : ((k : Int) + 2).toNat = k + 2 := by omega
          have t3 : ((k : Int) + 3).toNat = k + 3 := by omega
          have tn : ((k : Int) + ((n - k : Nat) : Int)).toNat = n := by omega
          have p1 : (0 : Int) ≤ (k : Int) + ((n - k : Nat) : Int) := by omega
          have p2 : (k : Int) + ((n - k : Nat) : Int) ≤ (cap : Int) := by omega
          have p3 : (0 : Int) ≤ (k : Int) + 3 := by omega
          have p4 : (k : Int) + 3 ≤ max ((k : Int) + ((n - k : Nat) : Int)) 0 := by omega
          have q2 : IntKind.i64.wrap ((k : Int) + 2) = (k : Int) + 2 := (by rw [IntKind.wrap_i64]; omega)
          have q3 : IntKind.i64.wrap ((k : Int) + 3) = (k : Int) + 3 := (by rw [IntKind.wrap_i64]; omega)
          have qn : IntKind.i64.wrap ((k : Int) + ((n - k : Nat) : Int)) = (k : Int) + ((n - k : Nat) : Int) := (by rw [IntKind.wrap_i64]; omega)
          have hlen4 : dl.length ≤ 140737488351232 := by rw [hdl]; have := HN.out; simp; omega
          have HL4 := Lib.hid hlen4
          clear d0 d1 d2 hW0 hrow4 hsl hlen4 hm4 hcap hdl
          have hi0 : (0 : Int) ≤ (k : Int) := by omega
          have hi2 : (k : Int) + 2 < (n : Int) := by omega
          have hi3 : decide ((k : Int) + 2 < (n : Int)) = true := decide_eq_true (by omega)
          have hi4 : (0 : Int) ≤ (k : Int) + 2 := by omega
          go_wp2_with fail
          go_region_held3 (fun W' => W'.cell? ⟨g, o + (k + 2), none⟩ = some (.int .u8 (x2 : Int)) ∧ Below w.heap.size w W')
            (first | assumption | exact s2_alloc (by assumption) _)
            (first
            | (go_at_call 24; refine (copy_any _ _ _ (HR4.out _ rfl) HL4.out).mono ?_; rintro e w6 ⟨v6, rfl, ho6, -, hb6⟩; obtain ⟨a6, c6, rfl⟩ := BOwn_form ho6; have HO6 := Lib.hid (ho6.lower hsz0); have HF6 := Lib.hid (FRow_below HF0.out hb6); have HV6 := Lib.hid (HV0.out.below hb6 (Nat.le_refl _)); have hsz6 : w.heap.size ≤ w6.heap.size := Nat.le_trans hsz0 hb6.size; have hS6 : w6.cell? ⟨g, o + (k + 2), none⟩ = some (.int .u8 (x2 : Int)) ∧ Below w.heap.size w w6 := ⟨WB_cell HV6.out hx2, hS0.2.trans (hb6.mono hsz0)⟩; clear ho6 hb6)
            | (refine step_append_own rfl _ _ _ rfl w.heap.size 140 i0 (.agg #[.int .u8 0, .slice none 0 0]) 2 32 Try.underlying137 hi hz0 hz1 hz2 rfl (by decide) _ _ _ rfl (HF6.out.1.alloc _) ⟨w6.heap.size, 0, none⟩ 1 1 [.int .u8 (x2 : Int), .slice a6 _ c6] rfl rfl (cells_lit w6 [.int .u8 (x2 : Int), .slice a6 _ c6] _) (by intro u hu; simp at hu; rcases hu with rfl | rfl <;> rfl) (by unfold maxLen; omega) (by omega) (by simp; omega) ?_; intro v7 w7 hown7 hgrow7 _; obtain ⟨hf7, hb7, -⟩ := FRow_append (x := (⟨x2, .slice a6 _ c6, dl, 0⟩ : El)) HF6.out ⟨b2, HO6.out⟩ (by decide) hsz6 hown7 hgrow7; obtain ⟨g7, cap7, rfl⟩ := ownsRow_succ hown7; have HF7 := Lib.hid hf7; have hS7 : w7.cell? ⟨g, o + (k + 2), none⟩ = some (.int .u8 (x2 : Int)) ∧ Below w.heap.size w w7 := ⟨(hb7.cell (p := ⟨g, o + (k + 2), none⟩) HV.out.2.2).trans hS6.1, hS6.2.trans hb7⟩; clear hf7 hb7 hown7 hgrow7)
              | fail)
          go_wp2_with fail
          go_roundw
          case rel =>
            refine ⟨k + (n - k), pre ++ [⟨x2, .slice a6 _ c6, dl, 0⟩], by omega, by go_num, HF7.out, ?_, ?_, hS7.2, by simp; omega⟩
            · intro x hx
              rcases List.mem_append.1 hx with hx | hx
              · exact HE.out x hx
              · simp at hx; subst hx; rfl
            · rw [List.map_append, List.append_assoc, ← HELS.out]
              have he := elsOf_good hne HNB.out
              rw [HH.out, g2, drop_part, ← HDL.out, List.drop_drop] at he
              rw [he]
              rfl
          case measure => simp [intOf]; omega
        · have hhz : ((h0 : Int) == 0) = false := beq_eq_false_iff_ne.2 (by omega)
          have HH := Lib.hid (show hdr (l.drop k) = h0 by unfold hdr; rw [if_pos ⟨by omega, by rw [g0, g1]; omega⟩, g0, g1]; exact hh0)
          by_cases hbd : h0 < 3 ∨ left < h0
          · have hbad : bad (l.drop k) := by unfold bad; rw [HH.out, hln]; exact hbd
            have hEE := elsOf_bad hne hbad
            rw [hEE, El.gh_ok HE.out] at HELS
            have ht := told_err (l := l) (fs := pre.map El.fd) (x := (0, [], 2)) (by decide) (by rw [HELS.out]; exact List.prefix_refl _)
            have HT1 := Lib.hid ht.1
            have HT2 := Lib.hid ht.2.1
            have HBD := Lib.hid hbd
            clear ht hEE hbad hne hbd
            go_wp2_with fail
            go_quiet (fail)
            by_cases h3' : h0 < 3
            all_goals
              first
              | have hd3 : decide ((h0 : Int) < 3) = true := decide_eq_true (by omega)
              | (have hd3 : decide ((h0 : Int) < 3) = false := decide_eq_false (by omega)
                 have hdl : decide (((n - k : Nat) : Int) < (h0 : Int)) = true := decide_eq_true (by have := HBD.out; omega)
                 have hdn : n - k < h0 := by have := HBD.out; omega)
              go_wp2_with fail
              go_ret2
              exact ⟨⟨_, pre, by rw [HT2.out]; try rfl, HF.out, HT1.out.symm⟩, bl_drewN HB.out nq⟩
          · have HNB := Lib.hid (show ¬ bad (l.drop k) by unfold bad; rw [HH.out, hln]; exact hbd)
            have hh3 : 3 ≤ h0 := by omega
            have hhl : h0 ≤ n - k := by omega
            have hd3 : decide ((h0 : Int) < 3) = false := decide_eq_false (by omega)
            have hdl : decide (((n - k : Nat) : Int) < (h0 : Int)) = false := decide_eq_false (by omega)
            have hdn : ¬ n - k < h0 := by omega
            go_wp2_with fail
            go_quiet (fail)
            obtain ⟨W0, hW0⟩ : ∃ W0, W0 = wr.drewN nq := ⟨_, rfl⟩
            rw [← hW0]
            have HF0 := Lib.hid (show FRow 140 w.heap.size W0.drew (.slice ao pre.length co) pre by rw [hW0]; exact HF.out)
            have HV0 := Lib.hid (show WB W0.drew g o n cap l by rw [hW0]; exact HVr.out)
            have hS0 : W0.drew.cell? ⟨g, o + (k + 2), none⟩ = some (.int .u8 (x2 : Int)) ∧ Below w.heap.size w W0.drew := ⟨by rw [hW0]; exact d2, (show Below w.heap.size w W0 by rw [hW0]; exact bl_drewN HB.out nq).drew⟩
            have hsz0 : w.heap.size ≤ W0.drew.heap.size := hS0.2.size
            have e2 := hS0.1
            obtain ⟨A4, hA4, hrow4, hsl⟩ := WB_mid HV0.out (k + 3) (k + h0) (by omega) (by omega)
            obtain ⟨dl, hdl⟩ : ∃ dl, dl = (l.take (k + h0)).drop (k + 3) := ⟨_, rfl⟩
            rw [← hdl] at hrow4
            have HDL := Lib.hid hdl
            have hcap := WB_cap HV0.out
            obtain ⟨jj, hjj⟩ : ∃ jj, jj = k + h0 := ⟨_, rfl⟩
            obtain ⟨m4, hm4⟩ : ∃ m4, m4 = jj - (k + 3) := ⟨_, rfl⟩
            have hm4' : jj - (k + 3) = m4 := hm4.symm
            have HM4 := Lib.hid (show k + h0 - (k + 3) = m4 by omega)
            rw [HM4.out] at hrow4
            have HR4 := Lib.hid hrow4
            have t2 : ((k : Int) + 2).toNat = k + 2 := by omega
            have t3 : ((k : Int) + 3).toNat = k + 3 := by omega
            have tn : ((k : Int) + (h0 : Int)).toNat = jj := by omega
            have p1 : (0 : Int) ≤ (k : Int) + (h0 : Int) := by omega
            have p2 : (k : Int) + (h0 : Int) ≤ (cap : Int) := by omega
            have p3 : (0 : Int) ≤ (k : Int) + 3 := by omega
            have p4 : (k : Int) + 3 ≤ max ((k : Int) + (h0 : Int)) 0 := by omega
            have p5 : (k : Int) + 3 ≤ (jj : Int) := by omega
            have q2 : IntKind.i64.wrap ((k : Int) + 2) = (k : Int) + 2 := (by rw [IntKind.wrap_i64]; omega)
            have q3 : IntKind.i64.wrap ((k : Int) + 3) = (k : Int) + 3 := (by rw [IntKind.wrap_i64]; omega)
            have qn : IntKind.i64.wrap ((k : Int) + (h0 : Int)) = (k : Int) + (h0 : Int) := (by rw [IntKind.wrap_i64]; omega)
            have hlen4 : dl.length ≤ 140737488351232 := by rw [hdl]; have := HN.out; simp; omega
            have HL4 := Lib.hid hlen4
            clear d0 d1 d2 hW0 hrow4 hsl hlen4 hm4 hcap hdl hjj
            have hi0 : (0 : Int) ≤ (k : Int) := by omega
            have hi2 : (k : Int) + 2 < (n : Int) := by omega
            have hi3 : decide ((k : Int) + 2 < (n : Int)) = true := decide_eq_true (by omega)
            have hi4 : (0 : Int) ≤ (k : Int) + 2 := by omega
            go_wp2_with fail
            go_region_held3 (fun W' => W'.cell? ⟨g, o + (k + 2), none⟩ = some (.int .u8 (x2 : Int)) ∧ Below w.heap.size w W')
              (first | assumption | exact s2_alloc (by assumption) _)
              (first
              | (go_at_call 24; refine (copy_any _ _ _ (HR4.out _ rfl) HL4.out).mono ?_; rintro e w6 ⟨v6, rfl, ho6, -, hb6⟩; obtain ⟨a6, c6, rfl⟩ := BOwn_form ho6; have HO6 := Lib.hid (ho6.lower hsz0); have HF6 := Lib.hid (FRow_below HF0.out hb6); have HV6 := Lib.hid (HV0.out.below hb6 (Nat.le_refl _)); have hsz6 : w.heap.size ≤ w6.heap.size := Nat.le_trans hsz0 hb6.size; have hS6 : w6.cell? ⟨g, o + (k + 2), none⟩ = some (.int .u8 (x2 : Int)) ∧ Below w.heap.size w w6 := ⟨WB_cell HV6.out hx2, hS0.2.trans (hb6.mono hsz0)⟩; clear ho6 hb6)
              | (refine step_append_own rfl _ _ _ rfl w.heap.size 140 i0 (.agg #[.int .u8 0, .slice none 0 0]) 2 32 Try.underlying137 hi hz0 hz1 hz2 rfl (by decide) _ _ _ rfl (HF6.out.1.alloc _) ⟨w6.heap.size, 0, none⟩ 1 1 [.int .u8 (x2 : Int), .slice a6 _ c6] rfl rfl (cells_lit w6 [.int .u8 (x2 : Int), .slice a6 _ c6] _) (by intro u hu; simp at hu; rcases hu with rfl | rfl <;> rfl) (by unfold maxLen; omega) (by omega) (by simp; omega) ?_; intro v7 w7 hown7 hgrow7 _; obtain ⟨hf7, hb7, -⟩ := FRow_append (x := (⟨x2, .slice a6 _ c6, dl, 0⟩ : El)) HF6.out ⟨b2, HO6.out⟩ (by decide) hsz6 hown7 hgrow7; obtain ⟨g7, cap7, rfl⟩ := ownsRow_succ hown7; have HF7 := Lib.hid hf7; have hS7 : w7.cell? ⟨g, o + (k + 2), none⟩ = some (.int .u8 (x2 : Int)) ∧ Below w.heap.size w w7 := ⟨(hb7.cell (p := ⟨g, o + (k + 2), none⟩) HV.out.2.2).trans hS6.1, hS6.2.trans hb7⟩; clear hf7 hb7 hown7 hgrow7)
              | fail)
            go_wp2_with fail
            go_roundw
            case rel =>
              refine ⟨k + h0, pre ++ [⟨x2, .slice a6 _ c6, dl, 0⟩], by omega, by go_num, HF7.out, ?_, ?_, hS7.2, by simp; omega⟩
              · intro x hx
                rcases List.mem_append.1 hx with hx | hx
                · exact HE.out x hx
                · simp at hx; subst hx; rfl
              · rw [List.map_append, List.append_assoc, ← HELS.out]
                have he := elsOf_good hne HNB.out
                rw [HH.out, g2, drop_part, ← HDL.out, List.drop_drop] at he
                rw [he]
                rfl
            case measure => simp [intOf]; omega
    · go_wp2_with fail
      go_ret2
      have hkn : k = n := by omega
      have hd : l.drop k = [] := List.drop_eq_nil_of_le (by rw [hkn, HN.out]; exact Nat.le_refl _)
      have hfin := HELS.out
      rw [hd, elsOf_nil, List.append_nil, El.gh_ok HE.out] at hfin
      obtain ⟨h1, h2⟩ := told_all hfin
      exact ⟨⟨_, pre, by rw [h2]; try rfl, HF.out, h1.symm⟩, HB.out⟩
end Go.Proofs.Ytcibhchbgendaab.Qy
