/- The walk of vitrineref21.Acts (under way). -/
import Derived.Test.YtcibhchbgendaaaDoorSfRActs
namespace Go.Proofs.YtcibhchbgendaaaDoor.Sf
open Go Go.RowKit Go.Proofs.YtcibhchbgendaaaDoor.By

theorem els_data : ∀ (f : Nat) (l : List Nat) (x : Nat × List Nat × Int), x ∈ els f l → x.2.1.length ≤ l.length
  | 0, _, x, h => by simp [els] at h
  | f + 1, l, x, h => by
    unfold els at h
    split at h
    · simp at h
    · split at h
      · simp at h
        subst h
        simp
      · rcases List.mem_cons.1 h with rfl | h
        · simp
          omega
        · have := els_data f _ x h
          simp at this
          omega
theorem fieldsOf_data {l : List Nat} {f : Nat × List Nat} (h : f ∈ fieldsOf l) : f.2.length ≤ l.length := by
  unfold fieldsOf at h
  obtain ⟨x, hx, rfl⟩ := List.mem_map.1 h
  exact els_data _ _ x (List.mem_filter.1 hx).1

theorem ARow_below {t : TypeId} {B : Nat} {W W' : World} {v : Value} {xs : List AEl} (h : ARow t B W v xs) (hb : Below W.heap.size W W') : ARow t B W' v xs :=
  have hg : W.grownBy W' none := ⟨hb.os, hb.tape, hb.output, hb.size, fun i hi _ => hb.block i hi⟩
  ⟨row_kept h.1 hg (fun r e => by cases e), fun x hx => AEl.sound B x W W' none (h.2 x hx) hg (Safe.none _ _)⟩

theorem ARow_lower {t : TypeId} {B C : Nat} {W : World} {v : Value} {xs : List AEl} (h : ARow t B W v xs) (hC : C ≤ B) : ARow t C W v xs := by
  obtain ⟨⟨hl, h | ⟨g, cap, cur, h1, h2, h3⟩⟩, hG⟩ := h
  · exact ⟨⟨hl, .inl h⟩, fun x hx => AEl.G_lower (hG x hx) hC⟩
  · exact ⟨⟨hl, .inr ⟨g, cap, cur, h1, Nat.le_trans hC h2, h3⟩⟩, fun x hx => AEl.G_lower (hG x hx) hC⟩

theorem ract_info : (Tryd.prog.info? 26).map (fun i => (i.zero, i.size, i.bytes)) = some (some (.agg #[.int .i64 0, .int .i64 0, .int .i64 0, .bool false, .int .u8 0, .slice none 0 0, .slice none 0 0]), 7, 80) := by kernel_rfl

set_option maxHeartbeats 8000000 in
set_option maxRecDepth 100000 in
theorem racts_any (B : Nat) (v : Value) (l : List Nat) (w : World) (hv : BOwn B w v l) (h47 : l.length ≤ 1000000) :
    Calls Tryd.prog 25 #[v] w fun e w' => AsEnd 26 (actsOf (fieldsOf l) (endOf l)) w.heap.size e w' ∧ Below w.heap.size w w' := by
  obtain ⟨i0, hi, hz0, hz1, hz2⟩ := info_parts ract_info
  have HV := Lib.hid hv
  clear hv
  go_enter Tryd.func25, Tryd.ntmps25
  go_wp2_with fail
  refine (rall_any B v l w HV.out h47).mono ?_
  rintro e w1 ⟨⟨v1, xs, rfl, hf, hfd⟩, hb⟩
  obtain ⟨a1, c1, rfl⟩ := row_form hf.1
  have HF := Lib.hid hf
  have HFD := Lib.hid hfd
  have HB := Lib.hid hb
  obtain ⟨N, hN⟩ : ∃ N, N = xs.length := ⟨_, rfl⟩
  rw [← hN] at HF ⊢
  have HN := Lib.hid hN
  have hN6 : N ≤ 1000000 := by
    have h1 := fieldsOf_len l
    rw [← hfd, List.length_map] at h1
    omega
  clear hf hfd hb hN
  go_wp2_with fail
  go_loopw [6, 18] (fun vo i wr => ∃ (k : Nat) (pre : List AEl), k ≤ N ∧ i = .int .i64 k ∧ ARow 26 w1.heap.size wr vo pre ∧ pre.length = k ∧ (xs.take k).map El.act = pre.map (fun x => (x.a, (0 : Int))) ∧ Below w1.heap.size w1 wr) (fun _ i _ => N - (intOf i).toNat)
  case atStart => exact ⟨0, [], Nat.zero_le _, rfl, ⟨World.ownsRow_nil _ _ _ _, by simp⟩, rfl, by simp, Below.refl _ _⟩
  case round =>
    obtain ⟨k, pre, hk, rfl, ha, hpk, hm, hbr⟩ := hrel
    obtain ⟨ao, co, rfl⟩ := row_form ha.1
    have HA := Lib.hid ha
    have HM := Lib.hid hm
    have HPK := Lib.hid hpk
    have hpn : pre.length ≤ N := by omega
    have HBR := Lib.hid hbr
    have hsz := hbr.size
    have HFR := Lib.hid (FRow_below HF.out hbr)
    clear ha hm hbr hpk
    by_cases hlt : k < N
    · obtain ⟨x, hx⟩ : ∃ x, xs[k]? = some x := ⟨xs[k]'(by have := HN.out; omega), List.getElem?_eq_getElem _⟩
      obtain ⟨g, rfl⟩ : ∃ g, a1 = some ⟨g, 0, none⟩ := by
        rcases FRow_form HFR.out with ⟨h, _⟩ | ⟨g, c, h⟩
        · injection h with _ h _; omega
        · injection h with h; exact ⟨g, h⟩
      obtain ⟨xi, xv, xl, xe⟩ := x
      have hxm : xi < 256 ∧ BOwn w.heap.size wr xv xl := HFR.out.2 _ (List.mem_of_getElem? hx)
      obtain ⟨xa, xc, rfl⟩ := BOwn_form hxm.2
      have HXM := Lib.hid hxm
      clear hxm
      have hc := FRow_cells HFR.out hx
      have c0 : wr.cell? ⟨g, k * 2, none⟩ = some (.int .u8 (xi : Int)) := hc.1
      have c1 : wr.cell? ⟨g, k * 2 + 1, none⟩ = some (.slice xa xl.length xc) := hc.2
      clear hc
      have hxl : xl.length ≤ 1000000 := by
        have h : ((xi, xl) : Nat × List Nat) ∈ fieldsOf l := by
          rw [← HFD.out]
          exact List.mem_map.2 ⟨_, List.mem_of_getElem? hx, rfl⟩
        have := fieldsOf_data h
        simp at this
        omega
      go_wp2_with fail
      refine (rof_any xi w.heap.size (.slice xa xl.length xc) xl _ (HXM.out.2.below ((Below.refl wr.heap.size wr).alloc (Nat.le_refl _) _) (Nat.le_refl _)) (by omega)).mono ?_
      rintro e w2 ⟨⟨cv, rv, rfl, h1, h2⟩, hb2⟩
      have hsz2 := hb2.size
      simp only [World.size_alloc] at hsz2
      have hB2 : Below w1.heap.size w1 w2 := (HBR.out.alloc hsz _).trans (hb2.mono (by simp; omega))
      have HB2 := Lib.hid hB2
      have HA2 := Lib.hid (show wr.heap.size + 1 ≤ w2.heap.size from hsz2)
      obtain ⟨r, hr⟩ : ∃ r, actOf xi xl = r := ⟨_, rfl⟩
      rw [hr] at h1 h2 ⊢
      have HR := Lib.hid hr
      have HAR := Lib.hid (ARow_below HA.out (((Below.refl wr.heap.size wr).alloc (Nat.le_refl _) _).trans (hb2.mono (by simp))))
      clear hr hb2 hB2
      obtain ⟨⟨ak, acm, am, ab, aq, acs, arc⟩, er⟩ := r
      simp only [aval] at h1 h2 ⊢
      obtain ⟨ca, cc, rfl⟩ := BOwn_form h1
      obtain ⟨ra, rc, rfl⟩ := BOwn_form h2
      have H1 := Lib.hid h1
      have H2 := Lib.hid h2
      clear h1 h2
      by_cases he : er = 0
      · subst he
        have HB3 := Lib.hid (show Below w1.heap.size w1 (w2.alloc (.cells (#[.int .i64 ak, .int .i64 acm, .int .i64 am, .bool ab, .int .u8 (aq : Int), .slice ca acs.length cc, .slice ra arc.length rc]) 26)) from HB2.out.alloc HB2.out.size _)
        have HG3 := Lib.hid (show (⟨⟨ak, acm, am, ab, aq, acs, arc⟩, .slice ca acs.length cc, .slice ra arc.length rc⟩ : AEl).G w1.heap.size (w2.alloc (.cells (#[.int .i64 ak, .int .i64 acm, .int .i64 am, .bool ab, .int .u8 (aq : Int), .slice ca acs.length cc, .slice ra arc.length rc]) 26)) from ⟨(H1.out.lower (by simp; omega)).below ((Below.refl w2.heap.size w2).alloc (Nat.le_refl _) _) (Nat.le_refl _), (H2.out.lower (by simp; omega)).below ((Below.refl w2.heap.size w2).alloc (Nat.le_refl _) _) (Nat.le_refl _)⟩)
        have HAR3 := Lib.hid (show ARow 26 w1.heap.size (w2.alloc (.cells (#[.int .i64 ak, .int .i64 acm, .int .i64 am, .bool ab, .int .u8 (aq : Int), .slice ca acs.length cc, .slice ra arc.length rc]) 26)) (.slice ao pre.length co) pre from ARow_below HAR.out ((Below.refl w2.heap.size w2).alloc (Nat.le_refl _) _))
        have HCL := Lib.hid (show ∀ j u, ([.int .i64 ak, .int .i64 acm, .int .i64 am, .bool ab, .int .u8 (aq : Int), .slice ca acs.length cc, .slice ra arc.length rc] : List Value)[j]? = some u → ((w2.alloc (.cells (#[.int .i64 ak, .int .i64 acm, .int .i64 am, .bool ab, .int .u8 (aq : Int), .slice ca acs.length cc, .slice ra arc.length rc]) 26)).alloc (.cells (#[.int .i64 ak, .int .i64 acm, .int .i64 am, .bool ab, .int .u8 (aq : Int), .slice ca acs.length cc, .slice ra arc.length rc]) 26)).cell? ((⟨w2.heap.size + 1, 0, none⟩ : Addr).add j) = some u by
          intro j u hu
          have h := cells_lit (w2.alloc (.cells (#[.int .i64 ak, .int .i64 acm, .int .i64 am, .bool ab, .int .u8 (aq : Int), .slice ca acs.length cc, .slice ra arc.length rc]) 26)) [.int .i64 ak, .int .i64 acm, .int .i64 am, .bool ab, .int .u8 (aq : Int), .slice ca acs.length cc, .slice ra arc.length rc] 26 j u hu
          rw [World.size_alloc] at h
          exact h)
        go_wp2_with (at_builtin; refine wpList_append_own _ rfl _ _ 22 rfl w1.heap.size 26 i0 _ 7 80 Tryd.underlying22 hi hz0 hz1 hz2 rfl (by decide) _ _ _ rfl ((HAR.out.1.alloc _).alloc _) ⟨w2.heap.size + 1, 0, none⟩ 1 1 [.int .i64 ak, .int .i64 acm, .int .i64 am, .bool ab, .int .u8 (aq : Int), .slice ca acs.length cc, .slice ra arc.length rc] rfl rfl HCL.out (by intro u hu; simp at hu; rcases hu with rfl | rfl | rfl | rfl | rfl | rfl | rfl <;> rfl) (by unfold maxLen; omega) (by omega) (by simp; omega) ?_; intro v7 w7 hown7 hgrow7 _; obtain ⟨har7, hb7, _⟩ := ARow_append (x := ⟨⟨ak, acm, am, ab, aq, acs, arc⟩, .slice ca acs.length cc, .slice ra arc.length rc⟩) HAR3.out HG3.out (by decide) HB3.out.size hown7 hgrow7; obtain ⟨g7, c7, rfl⟩ := ownsRow_succ hown7; have HAR7 := Lib.hid har7; have HB7 := Lib.hid (HB3.out.trans hb7); clear har7 hb7 hown7 hgrow7)
        refine ⟨⟨k + 1, pre ++ [⟨⟨ak, acm, am, ab, aq, acs, arc⟩, .slice ca acs.length cc, .slice ra arc.length rc⟩], by omega, by go_num, HAR7.out, by simp [HPK.out], ?_, HB7.out⟩, by simp [intOf]; omega⟩
        have hr := HR.out
        have hm := HM.out
        simp [List.take_add_one, hx, hm, El.act, hr]
      · have hne : ((er : Int) != 0) = true := bne_iff_ne.2 he
        go_wp2_with fail
        go_ret2
        have hfs : fieldsOf l = (xs.take k).map El.fd ++ (xi, xl) :: (xs.drop (k + 1)).map El.fd := by
          have hk' : k < xs.length := (List.getElem?_eq_some_iff.1 hx).1
          have h1 := List.drop_eq_getElem_cons hk'
          rw [(List.getElem?_eq_some_iff.1 hx).2] at h1
          rw [← HFD.out]
          conv => lhs; rw [← List.take_append_drop k xs, h1]
          simp [El.fd]
        have hact := acts_err ((xs.take k).map El.fd) (xi, xl) ((xs.drop (k + 1)).map El.fd) (endOf l) (pre.map AEl.a) (by rw [List.map_map, List.map_map]; exact HM.out) (by rw [HR.out]; exact he)
        rw [← hfs, HR.out] at hact
        rw [hact]
        have hal := ARow_below HAR.out ((Below.refl w2.heap.size w2).alloc (Nat.le_refl _) (.cells (#[.int .i64 ak, .int .i64 acm, .int .i64 am, .bool ab, .int .u8 (aq : Int), .slice ca acs.length cc, .slice ra arc.length rc]) 26))
        exact ⟨⟨_, pre, rfl, ARow_lower hal HB.out.size, rfl⟩, HB.out.trans ((HB2.out.alloc HB2.out.size _).mono HB.out.size)⟩
    · go_wp2_with fail
      go_ret2
      have hkn : k = xs.length := by have := HN.out; omega
      have hact := acts_ok (xs.map El.fd) (endOf l) (pre.map AEl.a) (by have hm := HM.out; rw [hkn, List.take_length] at hm; rw [List.map_map, List.map_map]; exact hm)
      rw [HFD.out] at hact
      rw [hact]
      exact ⟨⟨_, pre, rfl, ARow_lower HA.out HB.out.size, rfl⟩, HB.out.trans (HBR.out.mono HB.out.size)⟩
end Go.Proofs.YtcibhchbgendaaaDoor.Sf
