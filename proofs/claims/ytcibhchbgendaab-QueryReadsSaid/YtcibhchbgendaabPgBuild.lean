/- The walk of (*page.Page).build. -/
import Derived.Test.YtcibhchbgendaabPgMem
import Derived.Test.YtcibhchbgendaabPgRow
import Derived.Test.YtcibhchbgendaabPgOthers
import Derived.Maps.OwnOps
import Derived.RegionTactic
import Derived.BigRegion
import Derived.StillTailTactics
import Derived.KernelRfl
import Derived.Outline
namespace Go.Proofs.Ytcibhchbgendaab.Pg
open Go Go.RowKit Go.Maps

theorem key32 : Keyed Try.prog 21 := int_keyed Try.underlying21

theorem row_index (d j : Nat) (hd : d < 16) (hj : j < 16) (w : World) : (Instr.index 154 (.agg ((rowL d).map (Value.int .u16)).toArray) (.int .i64 (j : Int))).run Try.prog w = .ok (.int .u16 ((rowL d).getD j 0)) w := by
  have hi : (Try.prog.info? 141).map (·.size) = some 1 := by kernel_rfl
  cases hq : Try.prog.info? 141 with
  | none => simp [hq] at hi
  | some i =>
    refine run_index_agg Try.underlying154 hq (by simpa [hq] using hi) (fun w => by kernel_rfl) hj ?_ _ w
    have hl := rowL_len d hd
    simp [List.getElem?_eq_getElem (by omega : j < (rowL d).length), List.getD_eq_getElem?_getD]

theorem run_makeMap_hint' {n : Int} (w : World) : (Instr.makeMap 120 (some (.int .i64 n))).run Try.prog w = .ok (.map (some w.heap.size)) (w.alloc (.map #[] 0)) := by
  simp [Instr.makeMap, run_underlying Try.underlying120]; rfl

theorem signs_part {k d st : Int} {m : Value} {i : Nat} {v : Value} (h : ((signs k).map (Value.int .i32))[i]? = some v) : (pgc k d st (signs k) m)[4 + i]? = some v := by
  rw [List.getElem?_map] at h
  obtain ⟨x, hx, rfl⟩ := Option.map_eq_some_iff.1 h
  have hi : i < (signs k).length := (List.getElem?_eq_some_iff.1 hx).1
  rw [pgc_sign hi, List.getD_eq_getElem?_getD, hx]
  rfl

theorem signs_index (k : Int) (c : Nat) (hc : c < 256) (w : World) : (Instr.index 119 (.agg ((signs k).map (Value.int .i32)).toArray) (.int .i64 (c : Int))).run Try.prog w = .ok (.int .i32 (signOf k c)) w := by
  have hi : (Try.prog.info? 21).map (·.size) = some 1 := by kernel_rfl
  cases hq : Try.prog.info? 21 with
  | none => simp [hq] at hi
  | some i =>
    refine run_index_agg Try.underlying119 hq (by simpa [hq] using hi) (fun w => by kernel_rfl) hc ?_ _ w
    have hl := signs_len k
    simp [List.getElem?_eq_getElem (by omega : c < (signs k).length), List.getD_eq_getElem?_getD, signOf]

theorem wf_sign (k : Int) (c : Nat) : (Lit.int .i32 (signOf k c)).wf = true := by
  have := signOf_range k c
  simp only [Lit.wf, show IntKind.i32.min = -2147483648 from rfl, show IntKind.i32.max = 2147483647 from rfl]
  simp only [Bool.and_eq_true, decide_eq_true_eq]
  omega
theorem wf_code (c : Nat) (h : c < 256) : (Lit.int .u8 (c : Int)).wf = true := by
  simp only [Lit.wf, show IntKind.u8.min = 0 from rfl, show IntKind.u8.max = 255 from rfl]
  simp only [Bool.and_eq_true, decide_eq_true_eq]
  omega

theorem wrap32_of {x : Int} (h : 0 ≤ x ∧ x < 65536) : wrap32 x = x := by unfold wrap32; omega
theorem row_wrap (d j : Nat) (hj : j < 16) : wrap32 ((rowL d)[j]?.getD 0) = base37.getD (16 * d + j) 0 := by
  have h : (rowL d)[j]?.getD 0 = base37.getD (16 * d + j) 0 := by rw [← rowL_at d j hj, List.getD_eq_getElem?_getD]
  rw [h]
  exact wrap32_of (getD_range base37_range _)

set_option maxHeartbeats 1600000 in
set_option maxRecDepth 100000 in
theorem build_any (b : Nat) (k : Int) (hk : IsNum k) (w : World) (hw : Bk w b 122 (pgc k 0 1 (prog 0) (.map none))) :
    Calls Try.prog 81 #[.pointer (some ⟨b, 0, none⟩)] w fun e w' => e = .returned (.tuple #[]) ∧ w.grownBy w' (some b) ∧
      ∃ m, w.heap.size ≤ m ∧ Bk w' b 122 (pgc k 0 1 (signs k) (.map (some m))) ∧ w'.ownsMap Try.prog 21 (plainElem Try.prog 5) m 256 (mapD k 256) := by
  have HW := Lib.hid hw
  clear hw
  go_enter Try.func81, Try.ntmps81
  go_wp2
  go_loopw [11] (fun i wr => ∃ d : Nat, d ≤ 16 ∧ i = .int .i64 d ∧ Bk wr b 122 (pgc k 0 1 (prog (16 * d)) (.map none)) ∧ w.grownBy wr (some b)) (fun i _ => 16 - (intOf i).toNat)
  case atStart => exact ⟨0, by omega, rfl, HW.out, gb_refl _ _⟩
  case round =>
    obtain ⟨d, hd, rfl, hbk, hgb⟩ := hrel
    by_cases hlt : d < 16
    · have HB := Lib.hid hbk
      have HG := Lib.hid hgb
      clear hbk hgb
      go_wp2_with (first | (go_at_call 91; refine (row_any d hlt _).mono ?_; rintro e w1 ⟨rfl, hb1⟩; have HB1 := Lib.hid (HB.out.below hb1 HB.out.lt); have HG1 := Lib.hid (gb_trans HG.out (gb_below hb1 (some b))); clear hb1))
      go_loopw [16] (fun i wr => ∃ j : Nat, j ≤ 16 ∧ i = .int .i64 j ∧ Bk wr b 122 (pgc k 0 1 (prog (16 * d + j)) (.map none)) ∧ w.grownBy wr (some b)) (fun i _ => 16 - (intOf i).toNat)
      case atStart => exact ⟨0, by omega, rfl, HB1.out, HG1.out⟩
      case round =>
        obtain ⟨j, hj, rfl, hbk, hgb⟩ := hrel
        by_cases hjt : j < 16
        · have HB2 := Lib.hid hbk
          have HG2 := Lib.hid hgb
          have hc : wr.cell? ⟨b, 4 + (16 * d + j), none⟩ = some (.int .i32 ((prog (16 * d + j)).getD (16 * d + j) 0)) := hbk.cellv (pgc_sign (by rw [prog_len _ (by omega)]; omega))
          have hf : wr.frozen? ⟨b, 4 + (16 * d + j), none⟩ = false := hbk.frozen _
          clear hbk hgb
          have hix : ∀ w, (Instr.index 154 (.agg ((rowL d).map (Value.int .u16)).toArray) (.int .i64 (j : Int))).run Try.prog w = .ok (.int .u16 ((rowL d).getD j 0)) w :=
            row_index d j hlt hjt
          go_wp2
          go_roundw
          case rel =>
            refine ⟨j + 1, by omega, by go_num, ?_, gb_set (p := ⟨b, 4 + (16 * d + j), none⟩) HG2.out (.inl rfl) _⟩
            have h1 := HB2.out.set (4 + (16 * d + j)) (Value.int IntKind.i32 (wrap32 ((rowL d)[j]?.getD 0)))
            rw [pgc_set_sign (by rw [prog_len _ (by omega)]; omega), row_wrap d j hjt, prog_step _ (by omega)] at h1
            rw [row_wrap d j hjt]
            exact h1
          case measure => simp [intOf]; omega
        · obtain rfl : j = 16 := by omega
          have HB2 := Lib.hid hbk
          have HG2 := Lib.hid hgb
          clear hbk hgb
          go_wp2
          go_roundw
          case rel => exact ⟨d + 1, by omega, by go_num, HB2.out, HG2.out⟩
          case measure => simp [intOf]; omega
    · obtain rfl : d = 16 := by omega
      have HB2 := Lib.hid hbk
      have HG2 := Lib.hid hgb
      have hc : wr.cell? ⟨b, 0, none⟩ = some (.int .i64 k) := hbk.cellv pgc_num
      clear hbk hgb
      go_wp2_with (first | (go_at_call 67; refine (others_any k hk _).mono ?_; rintro e w1 ⟨A, n, rfl, hn, hv, hb1⟩; have HN := Lib.hid hn; have HV := Lib.hid hv; have HB1 := Lib.hid (HB2.out.below hb1 HB2.out.lt); have HG1 := Lib.hid (gb_trans HG2.out (gb_below hb1 (some b))); have hn25 : n ≤ 25 := (by have := othL_len k; omega); clear hb1 hv hn))
      clear hc
      go_loopw [42] (fun i wr => ∃ j : Nat, j ≤ n ∧ i = .int .i64 j ∧ OthAt wr A (othL k) ∧ Bk wr b 122 (pgc k 0 1 (lay base37 ((othL k).take j)) (.map none)) ∧ w.grownBy wr (some b)) (fun i _ => n - (intOf i).toNat)
      case atStart => exact ⟨0, by omega, rfl, HV.out, by rw [← prog_all]; exact HB1.out, HG1.out⟩
      case round =>
        obtain ⟨j, hj, rfl, hv, hbk, hgb⟩ := hrel
        by_cases hjt : j < n
        · obtain ⟨g, c, s, rfl, hl, hc1, hc2⟩ := hv.elem (by rw [← HN.out]; exact hjt)
          have HV2 := Lib.hid hv
          have HB2 := Lib.hid hbk
          have HG2 := Lib.hid hgb
          have HL := Lib.hid hl
          clear hv hbk hgb hl
          have hr := othL_range k (c, s) (List.mem_of_getElem? HL.out)
          obtain ⟨hr1, hr2, hr3, hr4⟩ := hr
          go_wp2
          obtain ⟨W2, hW2⟩ : ∃ W2, wr.alloc (Obj.cells #[Value.int IntKind.u8 c, Value.int IntKind.u16 s] 143) = W2 := ⟨_, rfl⟩
          have HB3 := Lib.hid (show Bk W2 b 122 (pgc k 0 1 (lay base37 ((othL k).take j)) (.map none)) from hW2 ▸ HB2.out.alloc _)
          have HG3 := Lib.hid (show w.grownBy W2 (some b) from hW2 ▸ gb_alloc HG2.out _)
          have HV3 := Lib.hid (show OthAt W2 (some ⟨g, 0, none⟩) (othL k) from hW2 ▸ HV2.out.grown (gb_alloc (gb_refl _ (some b)) _) HB2.out)
          have hd1 : W2.cell? ⟨wr.heap.size, 0, none⟩ = some (.int .u8 c) := hW2 ▸ (Bk.new wr _ _).cell 0
          have hd2 : W2.cell? ⟨wr.heap.size, 1, none⟩ = some (.int .u16 s) := hW2 ▸ (Bk.new wr _ _).cell 1
          have hd3 : W2.cell? ⟨b, 4 + c.toNat, none⟩ = some (.int .i32 ((lay base37 ((othL k).take j)).getD c.toNat 0)) := HB3.out.cellv (pgc_sign (by rw [lay_len, base37_len]; omega))
          have hd4 : W2.frozen? ⟨b, 4 + c.toNat, none⟩ = false := HB3.out.frozen _
          rw [hW2]
          clear hW2 hc1 hc2
          go_region
          go_wp2
          go_roundw
          case rel =>
            have hl0 : 4 + c.toNat < 260 := by omega
            refine ⟨j + 1, by omega, by go_num, ?_, ?_, gb_drew (gb_set (p := ⟨b, 4 + c.toNat, none⟩) HG3.out (.inl rfl) _)⟩
            · exact OthAt.grown (w := W2) HV3.out (gb_drew (gb_set (p := ⟨b, 4 + c.toNat, none⟩) (gb_refl _ (some b)) (.inl rfl) _)) HB3.out
            · have h1 := (HB3.out.set (4 + c.toNat) (Value.int IntKind.i32 s)).drew
              rw [pgc_set_sign (by rw [lay_len, base37_len]; omega), ← lay_snoc] at h1
              have e : (othL k).take (j + 1) = (othL k).take j ++ [(c, s)] := by
                rw [List.take_add_one, HL.out]; rfl
              rw [e]
              exact h1
          case measure => simp [intOf]; omega
        · obtain rfl : j = n := by omega
          have e : (othL k).take j = othL k := List.take_of_length_le (by rw [← HN.out]; exact Nat.le_refl _)
          rw [e] at hbk
          obtain ⟨wo, rfl⟩ : ∃ wo : World, wo = wr := ⟨_, rfl⟩
          have HB2 := Lib.hid (show Bk wo b 122 (pgc k 0 1 (signs k) (.map none)) from hbk)
          have HG2 := Lib.hid hgb
          have hc : (wo.alloc (Obj.map #[] 0)).cell? ⟨b, 260, none⟩ = some (.map none) := (HB2.out.alloc _).cellv (pgc_map (signs_len k))
          have hf : (wo.alloc (Obj.map #[] 0)).frozen? ⟨b, 260, none⟩ = false := (HB2.out.alloc _).frozen _
          have HB4 := Lib.hid (show Bk ((wo.alloc (Obj.map #[] 0)).setCell ⟨b, 260, none⟩ (.map (some wo.heap.size))) b 122 (pgc k 0 1 (signs k) (.map (some wo.heap.size))) from by
            have h1 := (HB2.out.alloc (Obj.map #[] 0)).set 260 (.map (some wo.heap.size))
            rw [pgc_set_map (signs_len k)] at h1
            exact h1)
          have HG4 := Lib.hid (show w.grownBy ((wo.alloc (Obj.map #[] 0)).setCell ⟨b, 260, none⟩ (.map (some wo.heap.size))) (some b) from gb_set (p := ⟨b, 260, none⟩) (gb_alloc HG2.out _) (.inl rfl) _)
          have HM := Lib.hid (show ((wo.alloc (Obj.map #[] 0)).setCell ⟨b, 260, none⟩ (.map (some wo.heap.size))).ownsMap Try.prog 21 (plainElem Try.prog 5) wo.heap.size 0 (mapD k 0) from
            ownsMap_block (w := wo.alloc (Obj.map #[] 0)) (World.ownsMap_made _ _ _ _) (Below.heap_setCell _ _ _ _ (by have := HB2.out.lt; simp; omega)))
          clear hbk hgb e hv
          have hmm := fun w => run_makeMap_hint' (n := 256) w
          go_wp2_with (refine wpList_load_part rfl 119 (.tmp 62) rfl b 4 rfl 122 _ (0, 0) _ ((signs k).map (Value.int .i32)) HB4.out (fun i v hv => signs_part hv) Try.underlying119 rfl (by rw [List.length_map, signs_len]; kernel_rfl) ?_)
          clear hc hf hmm
          go_loopw [64] (fun i wx => ∃ c : Nat, c ≤ 256 ∧ i = .int .i64 c ∧ wx.ownsMap Try.prog 21 (plainElem Try.prog 5) wo.heap.size c (mapD k c) ∧ Bk wx b 122 (pgc k 0 1 (signs k) (.map (some wo.heap.size))) ∧ w.grownBy wx (some b)) (fun i _ => 256 - (intOf i).toNat)
          case atStart => exact ⟨0, by omega, rfl, HM.out, HB4.out, HG4.out⟩
          case round =>
            obtain ⟨c, hc, rfl, hm, hbk, hgb⟩ := hrel
            by_cases hct : c < 256
            · have HB5 := Lib.hid hbk
              have HG5 := Lib.hid hgb
              have HM5 := Lib.hid hm
              have hix : ∀ w, (Instr.index 119 (.agg ((signs k).map (Value.int .i32)).toArray) (.int .i64 (c : Int))).run Try.prog w = .ok (.int .i32 (signOf k c)) w := signs_index k c hct
              have hc1 : wr.cell? ⟨b, 260, none⟩ = some (.map (some wo.heap.size)) := hbk.cellv (pgc_map (signs_len k))
              clear hm hbk hgb
              go_wp2_with (first | (at_mapUpdate; refine wpList_mapUpdate_own _ rfl _ _ _ 120 rfl 21 5 key32 Try.underlying120 _ wo.heap.size c _ rfl HM5.out (by unfold maxLen; omega) _ _ _ rfl rfl (keyOf_int_mk Try.underlying21 (wf_sign k c)) _ [] (plainElem_int Try.underlying5 (wf_code c hct)) ?_; intro w5 hown5 hgrow5))
              go_roundw
              case rel =>
                refine ⟨c + 1, by omega, by go_num, hown5, HB5.out.grown hgrow5 (fun e => ?_), gb_row HG5.out hgrow5 (.inr HG2.out.size)⟩
                injection e with e
                exact ownsMap_ne HM5.out HB5.out e.symm
              case measure => simp [intOf]; omega
            · obtain rfl : c = 256 := by omega
              have HF := Lib.hid (show w.grownBy wr (some b) ∧ ∃ m, w.heap.size ≤ m ∧ Bk wr b 122 (pgc k 0 1 (signs k) (.map (some m))) ∧ wr.ownsMap Try.prog 21 (plainElem Try.prog 5) m 256 (mapD k 256) from
                ⟨hgb, wo.heap.size, HG2.out.size, hbk, hm⟩)
              clear hm hbk hgb
              go_wp2
              go_end0
              exact ⟨rfl, HF.out⟩
end Go.Proofs.Ytcibhchbgendaab.Pg
