/- The walk of the law PageReads. -/
import Derived.Test.YtcibhchbgendaabDoorPgReads
import Derived.Test.YtcibhchbgendaabDoorBySame
import Derived.Test.YtcibhchbgendaabDoorLaw01
import Derived.Test.YtcibhchbgendaabDoorRfCode
namespace Go.Proofs.YtcibhchbgendaabDoor.L1
open Go Go.RowKit Go.Proofs.YtcibhchbgendaabDoor.Pg Go.Proofs.YtcibhchbgendaabDoor.Rf Go.Proofs.YtcibhchbgendaabDoor.Cl Go.Proofs.YtcibhchbgendaabDoor.By

theorem byte_nat3 {x : Int} (h : (Lit.int .u8 x).wf = true) : ∃ n : Nat, n < 256 ∧ x = n := by
  simp only [Lit.wf, show IntKind.u8.min = 0 from rfl, show IntKind.u8.max = 255 from rfl] at h
  simp only [Bool.and_eq_true, decide_eq_true_eq] at h
  exact ⟨x.toNat, by omega, by omega⟩

set_option maxHeartbeats 4000000 in
set_option maxRecDepth 100000 in
theorem cutText_any (s : ByteArray) (hs : s.size ≤ maxLen) (w : World) : Calls Tryd.prog 6 #[.string s, .int .i64 300] w fun e w' => ∃ t : ByteArray, t.size ≤ 300 ∧ e = .returned (.string t) ∧ w' = w := by
  unfold maxLen at hs
  by_cases h : 300 < s.size
  · go_enter Tryd.func6, Tryd.ntmps6
    go_wp2
    go_ret
    exact ⟨_, by simp; omega, rfl, rfl⟩
  · go_enter Tryd.func6, Tryd.ntmps6
    go_wp2
    go_ret
    exact ⟨_, by omega, rfl, rfl⟩

theorem tabs_below {w w' : World} (h : Lib.Utf8Tabs 0 1 w) (hb : Below w.heap.size w w') (h2 : 2 ≤ w.heap.size) : Lib.Utf8Tabs 0 1 w' := by
  have e : ∀ g i, g < 2 → w'.cell? ⟨g, i, none⟩ = w.cell? ⟨g, i, none⟩ := by
    intro g i hg
    unfold World.cell?
    rw [hb.block g (by omega)]
  refine ⟨fun c hc => (e 0 c (by omega)).trans (h.1 c hc), fun i hi => ⟨(e 1 _ (by omega)).trans (h.2 i hi).1, (e 1 _ (by omega)).trans (h.2 i hi).2⟩⟩
theorem decode_width (s : ByteArray) (pos : Nat) : (Utf8.decode s pos).2 ≤ 4 := by
  rw [Lib.decode_at]
  unfold Lib.decodeN
  (repeat' split) <;> simp

/-- the law's own loop -/
def RefAt (k : Int) (s : ByteArray) (pos : Nat) (out : List Nat) (code : Int) : Prop :=
  (code = 0 ∧ ∃ fuel, codesTo k s fuel pos out = codesRun k s ∧ s.size ≤ pos + fuel) ∨ ((code = 4 ∨ code = 12) ∧ codesRun k s = .inr (out.length, code))

set_option maxHeartbeats 8000000 in
set_option maxRecDepth 100000 in
theorem pageReads_walk (n : Nat) (hn : n < 256) (s0 : ByteArray) (hs0 : s0.size ≤ maxLen) (w : World) (hT : Lib.Utf8Tabs 0 1 w) (h2 : 2 ≤ w.heap.size) :
    Calls Tryd.prog 3 #[.int .u8 n, .string s0] w fun e w' => e = .returned (.bool true) ∧ Below w.heap.size w w' := by
  have hnot : ∀ (x : Bool) (w : World), (Op.unary .not (.bool x)).run Tryd.prog w = .ok (.bool (!x)) w := fun _ _ => rfl
  have HT := Lib.hid hT
  clear hT
  obtain ⟨i0, hi, hz0, hz1, hz2⟩ := info_parts u8_info
  go_enter Tryd.func3, Tryd.ntmps3
  go_wp2_with fail
  refine (awake_any _).mono ?_
  rintro e w1 ⟨rfl, h1⟩
  have HW1 := Lib.hid h1
  clear h1
  go_wp2_with fail
  refine (pick_any n hn _).mono ?_
  rintro e w2 ⟨b, k, rfl, hk, hb, hp, hw⟩
  have HK := Lib.hid hk
  have HB := Lib.hid (Nat.le_trans HW1.out.size hb)
  have HP := Lib.hid hp
  have HW2 := Lib.hid (HW1.out.trans (hw.mono HW1.out.size))
  clear hk hb hp hw
  go_wp2_with fail
  refine (cutText_any s0 hs0 _).mono ?_
  rintro e w3 ⟨s, hsz, rfl, rfl⟩
  go_wp2_with fail
  go_loopw [7, 8, 9] (fun v c i wr => ∃ (pos : Nat) (out : List Nat) (code : Int), i = .int .i64 pos ∧ c = .int .i64 code ∧ BOwn w.heap.size wr v out ∧ PageAt wr b k ∧ Below w.heap.size w wr ∧ RefAt k s pos out code ∧ out.length ≤ pos ∧ pos ≤ 400 + s.size) (fun _ c i _ => if intOf c = 0 then 1 + (s.size - (intOf i).toNat) else 0)
  case atStart =>
    exact ⟨0, [], 0, rfl, rfl, ⟨by simp, by simp, .inl ⟨rfl, rfl⟩⟩, HP.out, HW2.out, .inl ⟨rfl, s.size, rfl, by omega⟩, by simp, by omega⟩
  case round =>
    obtain ⟨pos, out, code, rfl, rfl, ho1, hp1, hw1, hr1, hl1, hp2⟩ := hrel
    obtain ⟨ao, cap, rfl⟩ : ∃ ao cap, u7 = Value.slice ao out.length cap := by
      rcases ho1.row with ⟨h1, h2⟩ | ⟨ao, cap, h, _⟩
      · exact ⟨none, 0, by rw [h1, h2]; rfl⟩
      · exact ⟨_, _, h⟩
    have HO1 := Lib.hid ho1
    have HP1 := Lib.hid hp1
    have HW1 := Lib.hid hw1
    have HR1 := Lib.hid hr1
    clear ho1 hp1 hw1 hr1
    by_cases hgo : pos < s.size ∧ code = 0
    · obtain ⟨hlt, rfl⟩ := hgo
      have hfu : ∃ fuel, codesTo k s (fuel + 1) pos out = codesRun k s ∧ s.size ≤ pos + (fuel + 1) := by
        rcases HR1.out with ⟨_, fuel, h1, h2⟩ | ⟨h, _⟩
        · exact ⟨fuel - 1, by rw [show fuel - 1 + 1 = fuel from by omega]; exact h1, by omega⟩
        · rcases h with h | h <;> cases h
      obtain ⟨f, hf1, hf2⟩ := hfu
      have HF := Lib.hid hf1
      have hwd := width_pos s pos hlt
      have hmx := decode_max s pos
      have hle := decode_width s pos
      have HG := Lib.hid (decodeGo_tail hlt)
      have HBW := Lib.hid (@bad_width s pos)
      obtain ⟨r, hr⟩ : ∃ r, r = (Utf8.decode s pos).1 := ⟨_, rfl⟩
      obtain ⟨d, hd⟩ : ∃ d, d = (Utf8.decode s pos).2 := ⟨_, rfl⟩
      rw [← hr] at hmx
      rw [← hd] at hwd hle
      have HR := Lib.hid hr
      have HD := Lib.hid hd
      clear hr hd hf1
      go_wp2_with fail
      refine (Tryd.utf8_DecodeRuneInString (s.extract pos s.size) _ (tabs_below HT.out HW1.out h2)).mono ?_
      rintro e w4 ⟨rfl, h3⟩
      rw [HG.out, ← HR.out, ← HD.out]
      have HO2 := Lib.hid (HO1.out.below h3 (Nat.le_refl _))
      have HP2 := Lib.hid (HP1.out.below h3)
      have HW2 := Lib.hid (HW1.out.trans (h3.mono HW1.out.size))
      clear h3
      go_wp2_with fail
      refine (rcode_any k HK.out r _).mono ?_
      rintro e w5 ⟨rfl, rfl⟩
      by_cases hA : r = 65533 ∧ d = 1
      · obtain ⟨rfl, rfl⟩ := hA
        have hend := codesTo_bad (k := k) (f := f) (out := out) hlt HR.out.symm ((HBW.out HR.out.symm).1 HD.out.symm)
        rw [HF.out] at hend
        have HE := Lib.hid hend
        clear hend
        go_wp2_with fail
        go_roundw
        case rel => exact ⟨pos + 1, out, 4, by go_num, rfl, HO2.out, HP2.out, HW2.out, .inr ⟨.inl rfl, HE.out⟩, by omega, by omega⟩
        case measure => simp [intOf]; omega
      · have hne : ¬ ((Utf8.decode s pos).1 = 65533 ∧ Lib.hasPrefix (s.extract pos s.size).data.toList [239, 191, 189] = false) := fun h => hA ⟨HR.out.trans h.1, HD.out.trans ((HBW.out h.1).2 h.2)⟩
        have HNE := Lib.hid hne
        clear hne
        have hA' : r ≠ 65533 ∨ d ≠ 1 := by omega
        clear hA
        cases hx : codeOf k r with
        | none =>
          have hend := codesTo_none (k := k) (f := f) (out := out) hlt HNE.out (by rw [← HR.out]; exact hx)
          rw [HF.out] at hend
          have HE := Lib.hid hend
          have hcn : codeNum k r = -1 := by unfold codeNum; rw [hx]
          rw [hcn]
          clear hend hx hcn
          by_cases h65 : r = 65533
          · have hd1 : ((d : Int) == 1) = false := beq_eq_false_iff_ne.2 (by omega)
            subst h65
            go_wp2_with fail
            go_roundw
            case rel => exact ⟨pos + d, out, 12, by go_num, rfl, HO2.out, HP2.out, HW2.out, .inr ⟨.inr rfl, HE.out⟩, by omega, by omega⟩
            case measure => simp [intOf]; omega
          · have hb1 : ((r : Int) == 65533) = false := beq_eq_false_iff_ne.2 (by omega)
            go_wp2_with fail
            go_roundw
            case rel => exact ⟨pos + d, out, 12, by go_num, rfl, HO2.out, HP2.out, HW2.out, .inr ⟨.inr rfl, HE.out⟩, by omega, by omega⟩
            case measure => simp [intOf]; omega
        | some c =>
          have hend := codesTo_some (k := k) (f := f) (out := out) hlt HNE.out (by rw [← HR.out]; exact hx)
          rw [HF.out, ← HD.out] at hend
          have HE := Lib.hid hend
          have hc256 := (codeOf_some hx).1
          have hcn : codeNum k r = c := by unfold codeNum; rw [hx]
          have h65 : r ≠ 65533 := by
            rintro rfl
            have hb := codeOf_bad HK.out
            rw [show ((65533 : Nat) : Int) = 65533 from rfl, hb] at hx
            cases hx
          rw [hcn]
          clear hend hx hcn
          have hb1 : ((r : Int) == 65533) = false := beq_eq_false_iff_ne.2 (by omega)
          have hsz5 : w.heap.size ≤ w5.heap.size := HW2.out.size
          go_wp2_with (first | (at_builtin; refine wpList_append_own _ rfl _ _ 27 rfl w.heap.size 5 i0 (.int .u8 0) 1 1 Tryd.underlying27 hi hz0 hz1 hz2 rfl (by decide) (.slice ao out.length cap) out.length (out.map bv) rfl (HO2.out.2.alloc _) ⟨w5.heap.size, 0, none⟩ 1 1 [bv c] rfl rfl (cell_one_new _ _ _) (by intro u hu; simp at hu; subst hu; rfl) (by unfold maxLen; omega) (by omega) (by simp; omega) ?_; intro v' w6 hown hgrow hnil))
          go_wp2_with fail
          go_roundw
          case rel =>
            have hob := BOwn_block HO2.out
            have hL6 : Below w.heap.size w5 w6 := ((Below.refl w.heap.size w5).alloc hsz5 _).grown hgrow (by simp; omega) (fun j hj => (hob j hj).1)
            refine ⟨pos + d, out ++ [c], 0, by go_num, rfl, ⟨?_, by simpa using hown⟩, (HP2.out.alloc _).grown hgrow ?_ ?_, HW2.out.trans hL6, .inl ⟨rfl, f, HE.out.symm, by omega⟩, by simp; omega, by omega⟩
            · intro n hn
              rcases List.mem_append.1 hn with hn | hn
              · exact HO2.out.1 n hn
              · simp at hn; omega
            · intro e
              obtain ⟨_, cs, hc⟩ := hob _ e.symm
              obtain ⟨cs', hc'⟩ := HP2.out.bk
              unfold Bk at hc hc'
              rw [hc] at hc'
              injection hc' with e
              injection e with _ e2
              exact absurd e2 (by decide)
            · intro g e es cl hh
              obtain ⟨_, cs, hc⟩ := hob _ e
              unfold Bk at hc
              have hlt3 : g < w5.heap.size := (Array.getElem?_eq_some_iff.1 hc).1
              rw [Below.heap_alloc w5 _ g hlt3, hc] at hh
              cases hh
          case measure => simp [intOf]; omega
    · have hres : (code = 0 ∧ ¬ pos < s.size ∧ codesRun k s = .inl out) ∨ ((code = 4 ∨ code = 12) ∧ codesRun k s = .inr (out.length, code)) := by
        rcases HR1.out with ⟨rfl, fuel, h1, h2⟩ | h
        · have hnl : ¬ pos < s.size := fun h => hgo ⟨h, rfl⟩
          rw [codesTo_end k s fuel pos out hnl] at h1
          exact .inl ⟨rfl, hnl, h1.symm⟩
        · exact .inr h
      clear hgo
      have hs6 : s.size ≤ 1000000 := by omega
      rcases hres with ⟨rfl, hnl, hrun⟩ | ⟨rfl | rfl, hrun⟩
      · have HRUN := Lib.hid hrun
        clear hrun
        go_wp2_with fail
        refine (codes_any w.heap.size b k s hs6 _ HW1.out.size HB.out HP1.out).mono ?_
        rintro e w7 ⟨h0, h1, h2, h3⟩
        have HO7 := Lib.hid (BOwn_step HO1.out h2).row
        have HW7 := Lib.hid (HW1.out.trans h3)
        rcases h0 with ⟨l', v', hr, rfl, ho⟩ | ⟨n', x', hr, _⟩
        · rw [HRUN.out] at hr
          injection hr with hr
          subst hr
          have HO := Lib.hid ho.row
          clear h1 h2 h3 ho
          go_wp2_with fail
          refine (same_any v' _ out out _ HO.out HO7.out).mono ?_
          rintro e w8 ⟨rfl, rfl⟩
          rw [decide_eq_true (rfl : out = out)]
          go_wp2_with fail
          go_ret
          exact ⟨rfl, HW7.out⟩
        · rw [HRUN.out] at hr
          cases hr
      all_goals
        have HRUN := Lib.hid hrun
        clear hrun
        by_cases hlt : pos < s.size
        all_goals
          go_wp2_with fail
          refine (codes_any w.heap.size b k s hs6 _ HW1.out.size HB.out HP1.out).mono ?_
          rintro e w7 ⟨h0, h1, h2, h3⟩
          have HW7 := Lib.hid (HW1.out.trans h3)
          rcases h0 with ⟨l', v', hr, _, _⟩ | ⟨n', x', hr, rfl⟩
          · rw [HRUN.out] at hr
            cases hr
          · rw [HRUN.out] at hr
            injection hr with hr
            injection hr with hr1 hr2
            subst hr1 hr2
            clear h1 h2 h3
            go_wp2_with fail
            go_ret
            exact ⟨rfl, HW7.out⟩

theorem pageReads_any (x : Int) (s : ByteArray) (w : World) (hx : (Lit.int .u8 x).wf = true) (hs : s.size ≤ maxLen) (hT : Lib.Utf8Tabs 0 1 w) :
    Calls Tryd.prog 3 #[.int .u8 x, .string s] w fun e w' => e = .returned (.bool true) ∧ Below w.heap.size w w' := by
  obtain ⟨n, hn, rfl⟩ := byte_nat3 hx
  refine pageReads_walk n hn s hs w hT ?_
  have h := (hT.2 0 (by decide)).1
  rcases Nat.lt_or_ge 1 w.heap.size with hlt | hge
  · exact hlt
  · unfold World.cell? at h
    rw [Array.getElem?_eq_none hge] at h
    simp at h
end Go.Proofs.YtcibhchbgendaabDoor.L1
