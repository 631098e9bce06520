/- The walk of sfield.All: all fields of bytes. -/
import Derived.Test.YtcibhchbgendaaaDoorSfFields
namespace Go.Proofs.YtcibhchbgendaaaDoor.Sf
open Go Go.RowKit Go.Shelf Go.Proofs.YtcibhchbgendaaaDoor.By Go.Proofs.YtcibhchbgendaaaDoor.Rg
attribute [local go_sem] Oper.semAt_some

theorem mfield_info : (Tryd.prog.info? 40).map (fun i => (i.zero, i.size, i.bytes)) = some (some (.agg #[.int .u8 0, .slice none 0 0]), 2, 32) := by kernel_rfl

set_option maxRecDepth 100000 in
set_option maxHeartbeats 8000000 in
theorem all_any (b off cap : Nat) (l : List Nat) (w : World) (hw : Win w b off cap l) (h47 : l.length ≤ 1000000) (hb : b < w.heap.size) :
    Calls Tryd.prog 20 #[.slice (some ⟨b, off, none⟩) l.length cap] w fun e w' =>
      FEnd 40 (fieldsOf l) (endOf l) w.heap.size e w' ∧ Below w.heap.size w w' := by
  obtain ⟨i0, hi, hz0, hz1, hz2⟩ := info_parts mfield_info
  have HW := Lib.hid hw
  clear hw
  refine callsIn_wide.1 (callsIn_of_wp_marks (n := 5) Tryd.func20 rfl trivial ?_ rfl)
  simp only [Tryd.ntmps20, List.size_toArray, List.length_cons, List.length_nil, Nat.reduceAdd, Nat.reduceSub, Array.replicate_succ, Array.replicate_zero, List.push_toArray, List.append_toArray, List.nil_append, List.cons_append]
  refine wpIn_wide.2 ?_
  go_wp2_with fail
  refine (seq_any _ _ _ _).mono ?_
  rintro e w1 ⟨rfl, hw1⟩
  obtain ⟨w1', h0, hr1, hr2, hqo, hq, hsz, hbel⟩ := allocs4 w (.cells #[.slice none 0 0] 47) (.cells #[.int .i64 0] 37) (.cells #[.slice none 0 0] 47) (.cells #[.slice (some ⟨b, off, none⟩) l.length cap] 23)
  rw [← h0] at hw1
  subst hw1
  have HW1 := Lib.hid (HW.out.keep (W' := w1) (hbel.block b hb))
  have HBEL := Lib.hid hbel
  have HR1 := Lib.hid (show Boxed w1 (w.heap.size) 47 (.slice none 0 0) from hr1)
  have HR2 := Lib.hid (show Boxed w1 (w.heap.size + 1) 37 (.int .i64 0) from hr2)
  have HQO := Lib.hid (show Boxed w1 (w.heap.size + 1 + 1) 47 (.slice none 0 0) from hqo)
  have HQ := Lib.hid (show Boxed w1 (w.heap.size + 1 + 1 + 1) 23 (.slice (some ⟨b, off, none⟩) l.length cap) from hq)
  clear h0 hr1 hr2 hqo hq hbel
  go_wp2_with fail
  refine (wpIn_wide (n := 5)).1 ?_
  have hseq := fields_iter (w.heap.size + 1 + 1 + 1) b off cap l w1 HQ.out HW1.out (by omega) (by omega) (by omega)
  rw [hsz] at hseq
  have HSZ := Lib.hid hsz
  have hszl : w.heap.size + 4 ≤ w1.heap.size := by omega
  have hszg : w1.heap.size ≤ w.heap.size + 4 := by omega
  clear hsz
  refine wpIn_rangeBox (n := 5) (w0 := w1) rfl (by omega) (gf := 55) (lb := #[.pointer (some ⟨w.heap.size + 1 + 1 + 1, 0, none⟩)]) rfl trivial (enters_of Tryd.func55 (by kernel_rfl) rfl)
    (encs := El.encs) (q := w.heap.size + 1 + 1 + 1) (L := [w.heap.size + 1 + 1 + 1, b]) (G := El.G (w.heap.size + 4))
    hseq (fun x W l o o' h hl hc => El.G_safe h (grownBy_putObj' W l o') (fun r e => by injection e with e; subst e; exact .inl ⟨o, hl, hc⟩))
    ⟨_, _, _, HQ.out⟩ (by intro i hi; simp at hi; omega) (Below.refl _ _) (fun _ => rfl)
    (fun pre W => CI 40 2 El.cells (El.G (w.heap.size + 4)) (w.heap.size + 4) (w.heap.size + 1 + 1) (w.heap.size) (w.heap.size + 1) 47 37 w pre W ∧ (∀ x ∈ pre, x.e = 0))
    (fun c pre W => c = .ret ∧ ∃ good x, pre = good ++ [x] ∧ (∀ y ∈ good, y.e = 0) ∧ x.e ≠ 0 ∧ CX 40 2 El.cells (El.G (w.heap.size + 4)) (w.heap.size + 4) (w.heap.size) (w.heap.size + 1) 47 37 w x.e good W)
    ?hI ?hIx ?hIq ?hIxq ?h0 (fun x a' W => ∃ Bx, Bk W Bx 40 #[.int .u8 (x.id : Int), x.v] ∧ a' = { tmps := #[.slice (some ⟨b, off, none⟩) l.length cap, undef, .pointer (some ⟨w.heap.size, 0, none⟩), .pointer (some ⟨w.heap.size + 1, 0, none⟩), .pointer (some ⟨w.heap.size + 1 + 1, 0, none⟩), .pointer (some ⟨Bx, 0, none⟩), .int .i64 x.e, .slice (some ⟨b, off, none⟩) l.length cap, .func (.func 55) #[] #[.pointer (some ⟨w.heap.size + 1 + 1 + 1, 0, none⟩)], .agg #[.int .u8 x.id, x.v], .int .i64 x.e, undef, undef, undef, undef, undef, undef, undef, undef, undef], defers := [] }) ?hAx ?assign ?body ?done ?stop
  case hI =>
    rintro pre W W' row ⟨h1, h3⟩ hg hr
    have ht : Turns (w.heap.size + 4) (w.heap.size + 1 + 1 + 1) W row := fun r e => .inl ⟨by have := (hr r e).1; omega, (hr r e).2⟩
    exact ⟨h1.turn (El.sound _) hg ht ⟨by omega, by omega⟩ ⟨by omega, by omega, by omega⟩, h3⟩
  case hIx =>
    rintro c pre W W' row ⟨rfl, good, x, h1, h2, h3, h4⟩ hg hr
    have ht : Turns (w.heap.size + 4) (w.heap.size + 1 + 1 + 1) W row := fun r e => .inl ⟨by have := (hr r e).1; omega, (hr r e).2⟩
    exact ⟨rfl, good, x, h1, h2, h3, h4.turn (El.sound _) hg ht ⟨by omega, by omega⟩ ⟨by omega, by omega⟩⟩
  case hIq =>
    rintro pre W W' row ⟨h1, h3⟩ hg hr
    have ht : Turns (w.heap.size + 4) (w.heap.size + 1 + 1 + 1) W row := fun r e => .inr (by rcases hr with h | h <;> rw [h] at e <;> cases e; rfl)
    exact ⟨h1.turn (El.sound _) hg ht ⟨by omega, by omega⟩ ⟨by omega, by omega, by omega⟩, h3⟩
  case hIxq =>
    rintro c pre W W' row ⟨rfl, good, x, h1, h2, h3, h4⟩ hg hr
    have ht : Turns (w.heap.size + 4) (w.heap.size + 1 + 1 + 1) W row := fun r e => .inr (by rcases hr with h | h <;> rw [h] at e <;> cases e; rfl)
    exact ⟨rfl, good, x, h1, h2, h3, h4.turn (El.sound _) hg ht ⟨by omega, by omega⟩ ⟨by omega, by omega⟩⟩
  case h0 => exact ⟨⟨LS.start HQO.out, HR1.out, HR2.out, HBEL.out, hszl⟩, by simp⟩
  case hAx =>
    rintro x a' W lr o o' ⟨Bx, h1, h2⟩ hl hc
    exact ⟨Bx, Bk_putObj o' h1 hl hc, h2⟩
  case assign =>
    rintro lr pre ⟨id, v, dl, er⟩ W K ⟨hci, hp⟩ hg hK
    obtain ⟨av, cv, hv⟩ := BOwn_form hg.2
    change v = .slice av dl.length cv at hv
    subst hv
    have HCI := Lib.hid hci
    have HG := Lib.hid hg
    have HP := Lib.hid hp
    have hsz9 := hci.2.2.2.2
    clear hci hp hg
    simp only [El.encs]
    gi_wp2
    have ht : ∀ V, Turns (w.heap.size + 4) (w.heap.size + 1 + 1 + 1) V none := fun _ r e => by cases e
    refine hK _ _ (KeepsOthers.alloc _ _) ⟨fun i hi => Below.heap_alloc _ _ _ ?_, by simp⟩ ⟨HCI.out.turn (El.sound _) (World.grownBy_alloc _ _ none) (ht _) ⟨by omega, by omega⟩ ⟨by omega, by omega, by omega⟩, HP.out⟩ (El.G_safe HG.out (World.grownBy_alloc _ _ none) (Safe.none _ _)) ⟨_, Bk.new _ _ _, rfl⟩
    simp at hi
    omega
  case body =>
    rintro lr pre ⟨id, v, dl, er⟩ a' W ⟨⟨⟨vo, hv, hrow, hall⟩, hb1, hb2, hB, hN⟩, hp⟩ hg hsp ⟨Bx, hbx, rfl⟩
    have hlen : pre.length + 1 ≤ 1000001 := by
      have h1 := hsp.length_le
      have h2 := fieldsOf_len l
      have h3 : (elsOf l).length ≤ (fieldsOf l).length + 1 := by
        rw [(elsOf_split l).1]
        split <;> simp
      simp at h1
      omega
    clear hsp
    obtain ⟨av, cv, hvv⟩ := BOwn_form hg.2
    change v = .slice av dl.length cv at hvv
    subst hvv
    obtain ⟨ao, co, rfl⟩ := row_form hrow
    have hc := hv.cell
    have hx0 := hbx.cellv (i := 0) rfl
    have hx1 := hbx.cellv (i := 1) rfl
    by_cases her : er = 0
    · subst her
      gi_wp2_with (gi_at_builtin; refine wpListIn_append_own _ rfl _ _ 47 rfl (w.heap.size + 4) 40 i0 (.agg #[.int .u8 0, .slice none 0 0]) 2 32 Tryd.underlying47 hi hz0 hz1 hz2 rfl (by decide) _ _ _ rfl (hrow.alloc _) ⟨W.heap.size, 0, none⟩ 1 1 [.int .u8 id, .slice av dl.length cv] rfl rfl (cells_lit W [.int .u8 id, .slice av dl.length cv] _) (by intro u hu; simp at hu; rcases hu with rfl | rfl <;> rfl) (by unfold maxLen; omega) (by omega) (by simp; omega) ?_; intro v' w2 hown' hgrow _; obtain ⟨g', cap', rfl⟩ := ownsRow_succ hown'; obtain ⟨hv1, hls, hko, hold, hbe, hsz2⟩ := LS.appended (x := (⟨id, .slice av dl.length cv, dl, 0⟩ : El)) hv hrow hall hg (El.sound _) (by decide) (by decide) (by decide) hN hown' hgrow; have hc1 := hv1.cell; have hf1 := hv1.frozen; have HLS := Lib.hid hls; have HKO := Lib.hid hko; have HOLD := Lib.hid hold; have HBE := Lib.hid hbe; clear hls hko hold hbe hv1 hgrow hown')
      refine ⟨HKO.out, ⟨fun i hi => HOLD.out i (by simp at hi; omega) (by simp at hi; omega), hsz2⟩, ⟨HLS.out, (HOLD.out (w.heap.size) (by omega) (by omega)).trans hb1, (HOLD.out (w.heap.size + 1) (by omega) (by omega)).trans hb2, hB.trans (HBE.out _ (by omega) (by omega)), Nat.le_trans hN hsz2⟩, fun x hx => ?_⟩
      rcases List.mem_append.1 hx with hx | hx
      · exact hp x hx
      · simp at hx; subst hx; rfl
    · have hne : ((er : Int) != 0) = true := bne_iff_ne.2 her
      have hc1 := hb1.cell
      have hf1 := hb1.frozen
      have hc2 := hb2.cell
      have hf2 := hb2.frozen
      have HX := Lib.hid her
      clear her
      gi_wp2
      refine ⟨(KeepsOthers.setCell _ _ _).trans (KeepsOthers.setCell _ _ _), rfl, pre, ⟨id, .slice av dl.length cv, dl, er⟩, rfl, hp, HX.out, ?_⟩
      have hm1 := LS.moved hrow hall (El.sound _) hb1 (by decide) (by decide)
      refine ⟨hm1.grown (El.sound _) (grownBy_setCell' _ (w.heap.size + 1) _) (fun r e => by injection e with e; exact .inr ⟨by omega, by omega⟩), ((hb2.kept (grownBy_setCell' W (w.heap.size) _) (by simp)).set _), (hB.setCell (p := ⟨w.heap.size, 0, none⟩) (by show _ ≤ w.heap.size; omega) _).setCell (p := ⟨w.heap.size + 1, 0, none⟩) (by show _ ≤ w.heap.size + 1; omega) _⟩
  case done =>
    rintro D xs W hD hS ⟨⟨⟨v, hv, hrow, hall⟩, hb1, hb2, hB, hN⟩, hp⟩ hK
    obtain ⟨ao, co, rfl⟩ := row_form hrow
    have hS' : (xs.map El.fd).map okEl = elsOf l := by rw [← El.gh_ok hp]; exact hS
    have ht := told_all hS'
    have HFD := Lib.hid (show xs.map El.fd = fieldsOf l from ht.1.symm)
    have HCE := Lib.hid (show endOf l = 0 from ht.2)
    clear hS hS' ht hp hN
    have hc := hv.cell
    have hc1 := hb1.cell
    have hf1 := hb1.frozen
    have hc2 := hb2.cell
    have hf2 := hb2.frozen
    have hm1 := LS.moved hrow hall (El.sound _) hb1 (by decide) (by decide)
    have HLS := Lib.hid (hm1.grown (El.sound _) (grownBy_setCell' _ (w.heap.size + 1) (.int .i64 0)) (fun r e => by injection e with e; exact .inr ⟨by omega, by omega⟩))
    have HB2 := Lib.hid ((hb2.kept (grownBy_setCell' W (w.heap.size) (.slice ao xs.length co)) (by simp)).set (.int .i64 0))
    have HBB := Lib.hid ((hB.setCell (p := ⟨w.heap.size, 0, none⟩) (by show _ ≤ w.heap.size; omega) (.slice ao xs.length co)).setCell (p := ⟨w.heap.size + 1, 0, none⟩) (by show _ ≤ w.heap.size + 1; omega) (.int .i64 0))
    have HKD : ((W.setCell ⟨w.heap.size, 0, none⟩ (.slice ao xs.length co)).setCell ⟨w.heap.size + 1, 0, none⟩ (.int .i64 0)).heap[D]? = some (.deferred (some [])) := ((KeepsOthers.setCell _ _ _).trans (KeepsOthers.setCell _ _ _)).same D _ hK rfl
    have HDD := Lib.hid hD
    clear hv hrow hall hb1 hb2 hB hm1 hK hD
    go_wp2_with fail
    refine ⟨by simp, .inl ⟨_, _, rfl, run_takeDeferred HKD, ?_⟩⟩
    have hLL := HLS.out.grown (El.sound _) (grownBy_putObj' _ D (.deferred none)) (fun r e => by injection e with e; subst e; exact .inl ⟨_, HKD, rfl⟩)
    obtain ⟨vv, hvv, hrw, hal⟩ := hLL
    refine ⟨_, results_boxes2 rfl _ _ ⟨w.heap.size, 0, none⟩ ⟨w.heap.size + 1, 0, none⟩ _ _ rfl rfl (by kernel_rfl) (by kernel_rfl) hvv.cell (Boxed.cell (Bk_putObj _ HB2.out HKD rfl)), ⟨vv, xs, by rw [HCE.out], ⟨row_lower hrw (by omega), fun x hx => El.G_lower (hal x hx) (by omega)⟩, HFD.out⟩, HBB.out.trans (belowK_b (w := w) (Nat.le_refl _) _ D _ _ (by have := HDD.out; omega) HKD rfl rfl)⟩
  case stop =>
    rintro D c pre W hD hSp hx hK
    obtain ⟨rfl, good, x, rfl, hp, hne, hls, hb2, hB⟩ := hx
    rw [List.map_append, El.gh_ok hp] at hSp
    have ht := told_err (x := x.gh) hne hSp
    have he : x.e = 2 := congrArg (fun y : Nat × List Nat × Int => y.2.2) ht.2.2
    have HFD := Lib.hid (show good.map El.fd = fieldsOf l from ht.1.symm)
    have HCE := Lib.hid (show endOf l = x.e by rw [ht.2.1, he])
    have HLS := Lib.hid hls
    have HB2 := Lib.hid hb2
    have HBB := Lib.hid hB
    have HDD := Lib.hid hD
    have HKD := hK
    clear hSp ht he hp hne hls hb2 hB hD hK
    gi_wp2
    refine ⟨by simp, .inl ⟨_, _, rfl, run_takeDeferred HKD, ?_⟩⟩
    have hLL := HLS.out.grown (El.sound _) (grownBy_putObj' _ D (.deferred none)) (fun r e => by injection e with e; subst e; exact .inl ⟨_, HKD, rfl⟩)
    obtain ⟨vv, hvv, hrw, hal⟩ := hLL
    refine ⟨_, results_boxes2 rfl _ _ ⟨w.heap.size, 0, none⟩ ⟨w.heap.size + 1, 0, none⟩ _ _ rfl rfl (by kernel_rfl) (by kernel_rfl) hvv.cell (Boxed.cell (Bk_putObj _ HB2.out HKD rfl)), ⟨vv, good, by rw [HCE.out], ⟨row_lower hrw (by omega), fun x hx => El.G_lower (hal x hx) (by omega)⟩, HFD.out⟩, HBB.out.trans (belowK_b (w := w) (Nat.le_refl _) _ D _ _ (by have := HDD.out; omega) HKD rfl rfl)⟩
end Go.Proofs.YtcibhchbgendaaaDoor.Sf
