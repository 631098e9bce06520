/- The walks of query.field, slices.Grow and slices.Concat at []byte. -/
import Derived.Test.YtcibhchbgendaabQySmall
import Derived.Lib.AppendZeros
namespace Go.Proofs.Ytcibhchbgendaab.Qy
open Go Go.RowKit Go.Proofs.Ytcibhchbgendaab.By Go.Proofs.Ytcibhchbgendaab.Sf

theorem row_shape {w : World} {v : Value} {l : List Nat} (h : BRow w v l) : ∃ a c, v = .slice a l.length c := by
  rcases h with ⟨rfl, rfl⟩ | ⟨a, c, rfl, _⟩
  · exact ⟨_, _, rfl⟩
  · exact ⟨_, _, rfl⟩

set_option maxHeartbeats 4000000 in
set_option maxRecDepth 100000 in
theorem qfield_any (c : Nat) (hc : c < 256) (v : Value) (l : List Nat) (w : World) (hv : BRow w v l) (hl : l.length ≤ 1000) :
    Calls Try.prog 76 #[.int .u8 c, v] w fun e w' => (∃ p cp, e = .returned (.slice p (bytesOf (129, c :: l)).length cp) ∧ BOwn w.heap.size w' (.slice p (bytesOf (129, c :: l)).length cp) (bytesOf (129, c :: l))) ∧ Below w.heap.size w w' := by
  obtain ⟨a, cap, rfl⟩ := row_shape hv
  obtain ⟨n, hn⟩ : ∃ n, n = l.length := ⟨_, rfl⟩
  rw [← hn] at hv ⊢
  have HLIT := Lib.hid (own_lit w [c] (by simp) (by intro n hn; simp at hn; omega))
  have HB := Lib.hid ((Below.refl w.heap.size w).alloc (Nat.le_refl _) (.cells ([c].map bv).toArray 5))
  have HV := Lib.hid (hv.below HB.out (Nat.le_refl _))
  have HN := Lib.hid hn
  clear hv hn
  go_enter Try.func76, Try.ntmps76
  go_wp2_with (first | (at_builtin; refine wpList_append_brow rfl _ _ rfl w.heap.size _ [c] rfl HLIT.out _ l rfl HV.out (by simp) (by simp; omega) ?_; intro p5 c5 w5 hbo hgrow) | fail)
  have HB5 := Lib.hid (HB.out.grown hgrow (by simp) (fun j hj => (HLIT.out.2.lt j hj).1))
  have HO := Lib.hid (show BOwn w.heap.size w5 (.slice p5 (c :: l).length c5) (c :: l) from hbo)
  clear hbo hgrow
  have hm := mbytes_any 129 (by decide) w.heap.size _ (c :: l) w5 HO.out (by simp; omega)
  rw [if_neg (by simp; omega), if_neg (by simp; omega)] at hm
  have HM := Lib.hid hm
  clear hm
  refine HM.out.mono ?_
  rintro e w6 ⟨⟨v6, rfl, h6⟩, hb⟩
  obtain ⟨p6, c6, rfl⟩ := BOwn_form h6
  have H6 := Lib.hid h6
  have HB6 := Lib.hid (HB5.out.trans (hb.mono HB5.out.size))
  have HL := Lib.hid HB5.out.size
  clear h6 hb
  go_wp2_with fail
  go_ret
  exact ⟨⟨_, _, rfl, H6.out.lower HL.out⟩, HB6.out⟩

set_option maxHeartbeats 4000000 in
set_option maxRecDepth 100000 in
theorem grow_any (n : Nat) (h0 : 0 < n) (hn : n ≤ 1000) (w : World) : Calls Try.prog 101 #[.slice none 0 0, .int .i64 n] w fun e w' => (∃ p c, e = .returned (.slice p 0 c) ∧ BOwn w.heap.size w' (.slice p 0 c) []) ∧ Below w.heap.size w w' := by
  obtain ⟨i0, hi, hz0, hz1, hz2⟩ := info_parts u8_info
  have hap := fun (W : World) ty => Lib.run_append_nil_zeros W 22 3 ty 5 i0 (.int .u8 0) .i64 .i64 Try.underlying22 Try.underlying3 hi hz0 n h0 (by omega) (by omega) (by rw [hz2]; omega)
  have HAP := Lib.hid hap
  clear hap
  go_enter Try.func101, Try.ntmps101
  go_wp2_with (first | (at_builtin; refine Lib.wpList_append_run _ rfl _ _ _ _ rfl _ _ rfl rfl _ _ (HAP.out _ _) ?_) | fail)
  have hge := grownCap_ge w n 0 5
  have hle := grownCap_le_maxLen w n 0 5 (by unfold maxLen; omega)
  go_ret
  refine ⟨⟨_, _, rfl, by simp, rfl, .inr ⟨w.heap.size, _, _, rfl, Nat.le_refl _, heap_alloc_new w _, Nat.zero_le _, hle, ?_, by simp⟩⟩, ((Below.refl _ _).alloc (Nat.le_refl _) _).drew⟩
  rw [Array.size_append, size_zeroCells, size_zeroCells]
  simp
  omega

/-- the bytes of slices of bytes, in a row -/
def catOf (vs : List (Value × List Nat)) : List Nat := vs.flatMap (·.2)
theorem cat_take (vs : List (Value × List Nat)) (k : Nat) (x : Value × List Nat) (h : vs[k]? = some x) : catOf (vs.take (k + 1)) = catOf (vs.take k) ++ x.2 := by
  unfold catOf
  rw [List.take_add_one, h, List.flatMap_append]
  simp
theorem cat_le (vs : List (Value × List Nat)) (k : Nat) : (catOf (vs.take k)).length ≤ (catOf vs).length := by
  have h : catOf vs = catOf (vs.take k) ++ catOf (vs.drop k) := by
    unfold catOf
    rw [← List.flatMap_append, List.take_append_drop]
  rw [h, List.length_append]
  omega

set_option maxHeartbeats 4000000 in
set_option maxRecDepth 100000 in
theorem concat_any (g n : Nat) (vs : List (Value × List Nat)) (w : World) (hg : Bk w g 22 (vs.map (·.1)).toArray) (hn : n = vs.length) (hn9 : n ≤ 9) (hv : ∀ x ∈ vs, BRow w x.1 x.2) (h1 : 1 ≤ (catOf vs).length) (h2 : (catOf vs).length ≤ 1000) :
    Calls Try.prog 93 #[.slice (some ⟨g, 0, none⟩) n n] w fun e w' => (∃ p c, e = .returned (.slice p (catOf vs).length c) ∧ BOwn w.heap.size w' (.slice p (catOf vs).length c) (catOf vs)) ∧ Below w.heap.size w w' := by
  have HG := Lib.hid hg
  have HV := Lib.hid hv
  have HN := Lib.hid hn
  obtain ⟨T, hT⟩ : ∃ T, T = (catOf vs).length := ⟨_, rfl⟩
  have HT := Lib.hid hT
  rw [← hT] at h1 h2 ⊢
  clear hg hv hn hT
  have hcell : ∀ k x, vs[k]? = some x → w.cell? ⟨g, k, none⟩ = some x.1 := fun k x hk => HG.out.cellv (by simp [hk])
  have HCE := Lib.hid hcell
  clear hcell
  go_enter Try.func93, Try.ntmps93
  go_wp2_with fail
  go_loop [3, 11] (fun s i => ∃ k : Nat, k ≤ n ∧ i = .int .i64 k ∧ s = .int .i64 ((catOf (vs.take k)).length : Nat)) (fun _ i => n - (intOf i).toNat)
  case atStart => exact ⟨0, by omega, rfl, rfl⟩
  case round =>
    obtain ⟨k, hk, rfl, rfl⟩ := hrel
    obtain ⟨s, hs⟩ : ∃ s, s = (catOf (vs.take k)).length := ⟨_, rfl⟩
    have HS := Lib.hid hs
    rw [← hs]
    have hsT : s ≤ 1000 := by have := cat_le vs k; have := HT.out; omega
    clear hs
    by_cases hlt : k < n
    · obtain ⟨x, hx⟩ : ∃ x, vs[k]? = some x := ⟨vs[k]'(by have := HN.out; omega), List.getElem?_eq_getElem _⟩
      have hc := HCE.out k x hx
      obtain ⟨xv, xl⟩ := x
      have hr := HV.out _ (List.mem_of_getElem? hx)
      obtain ⟨a, c, hxv⟩ := row_shape hr
      change xv = .slice a xl.length c at hxv
      subst hxv
      have hst := cat_take vs k _ hx
      have hlen : s + xl.length = (catOf (vs.take (k + 1))).length := by rw [hst, List.length_append, ← HS.out]
      have hle : s + xl.length ≤ 1000 := by have := cat_le vs (k + 1); have := HT.out; omega
      have HLEN := Lib.hid hlen
      have hd : decide (((s : Int) + (xl.length : Int)) < 0) = false := decide_eq_false (by omega)
      clear hr hst hlen
      go_wp2_with fail
      go_round
      case rel => exact ⟨k + 1, by omega, by go_num, by rw [← HLEN.out]; simp⟩
      case measure => simp [intOf]; omega
    · obtain rfl : k = n := by omega
      have hsT2 : s = T := by
        rw [HS.out, List.take_of_length_le (by have := HN.out; omega)]
        exact HT.out.symm
      subst hsT2
      go_wp2_with fail
      refine (grow_any s (by omega) (by omega) _).mono ?_
      rintro e w1 ⟨⟨p0, c0, rfl, ho⟩, hb⟩
      have HO := Lib.hid ho
      have HB := Lib.hid hb
      clear ho hb
      go_wp2_with fail
      go_loopw [6, 27] (fun vo i wr => ∃ j : Nat, j ≤ k ∧ i = .int .i64 j ∧ BOwn w.heap.size wr vo (catOf (vs.take j)) ∧ Below w.heap.size w wr) (fun _ i _ => k - (intOf i).toNat)
      case atStart => exact ⟨0, by omega, rfl, HO.out, HB.out⟩
      case round =>
        obtain ⟨j, hj, rfl, hv, hb⟩ := hrel
        obtain ⟨av, cv, rfl⟩ := BOwn_form hv
        have hsz := hb.size
        have HV2 := Lib.hid hv
        have HB2 := Lib.hid hb
        obtain ⟨m, hm⟩ : ∃ m, m = (catOf (vs.take j)).length := ⟨_, rfl⟩
        rw [← hm] at HV2 ⊢
        have HM := Lib.hid hm
        have hmT : m ≤ s := by rw [hm, HT.out]; exact cat_le vs j
        clear hv hb hm
        by_cases hjk : j < k
        · obtain ⟨x, hx⟩ : ∃ x, vs[j]? = some x := ⟨vs[j]'(by have := HN.out; omega), List.getElem?_eq_getElem _⟩
          have hc : wr.cell? ⟨g, j, none⟩ = some x.1 := (HB2.out.cell (p := ⟨g, j, none⟩) HG.out.lt).trans (HCE.out j x hx)
          obtain ⟨xv, xl⟩ := x
          have hr : BRow wr xv xl := (HV.out _ (List.mem_of_getElem? hx)).below HB2.out (Nat.le_refl _)
          obtain ⟨a, c, hxv⟩ := row_shape hr
          subst hxv
          have HR := Lib.hid hr
          have hst := cat_take vs j _ hx
          have hlen : m + xl.length = (catOf (vs.take (j + 1))).length := by rw [hst, List.length_append, ← HM.out]
          have hle : m + xl.length ≤ s := by rw [hlen, HT.out]; exact cat_le vs (j + 1)
          have HLE := Lib.hid (show (catOf (vs.take j)).length + xl.length ≤ 1000000 by rw [← HM.out]; omega)
          have HST := Lib.hid hst
          have HLEN := Lib.hid hlen
          clear hr hst hlen
          go_wp2_with (first | (at_builtin; refine wpList_append_brow rfl _ _ rfl w.heap.size _ (catOf (vs.take j)) rfl HV2.out _ xl rfl HR.out hsz HLE.out ?_; intro p5 c5 w5 hbo hgrow) | fail)
          have hb5 : Below w.heap.size w w5 := HB2.out.grown hgrow hsz (fun j hj => (HV2.out.2.lt j hj).1)
          refine ⟨⟨j + 1, by omega, by go_num, ?_, hb5⟩, by simp [intOf]; omega⟩
          have hbo2 : BOwn w.heap.size w5 (.slice p5 (catOf (vs.take (j + 1))).length c5) (catOf (vs.take (j + 1))) := by rw [HST.out]; exact hbo
          rw [← HLEN.out, HM.out] at hbo2
          first
          | exact hbo2
          | (rw [HM.out]; exact hbo2)
          | (simp only [List.length_append]; exact hbo2)
        · obtain rfl : j = k := by omega
          have hms : m = s := by rw [HM.out, HT.out, List.take_of_length_le (by have := HN.out; omega)]
          subst hms
          have HV3 := HV2.out
          rw [List.take_of_length_le (by have := HN.out; omega)] at HV3
          have HV4 := Lib.hid HV3
          clear HV3
          go_wp2_with fail
          go_ret
          exact ⟨⟨_, _, rfl, HV4.out⟩, HB2.out⟩
end Go.Proofs.Ytcibhchbgendaab.Qy
