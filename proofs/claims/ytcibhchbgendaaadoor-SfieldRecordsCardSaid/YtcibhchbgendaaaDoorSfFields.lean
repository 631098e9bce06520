/- The walk of vitrinelaw21.fields: the first fields of bytes. -/
import Derived.Test.YtcibhchbgendaaaDoorSfIter
namespace Go.Proofs.YtcibhchbgendaaaDoor.Sf
open Go Go.RowKit Go.Shelf Go.Proofs.YtcibhchbgendaaaDoor.By Go.Proofs.YtcibhchbgendaaaDoor.Rg
attribute [local go_sem] Oper.semAt_some

/-- a slice of fields of one's own -/
def FRow (t : TypeId) (B : Nat) (W : World) (v : Value) (xs : List El) : Prop := W.ownsRow B t 2 v xs.length (xs.flatMap El.cells) ∧ ∀ x ∈ xs, x.G B W
/-- how a call ends that tells fields and an error -/
def FEnd (t : TypeId) (fs : List (Nat × List Nat)) (er : Int) (B : Nat) (e : Ending) (w' : World) : Prop := ∃ v xs, e = .returned (.tuple #[v, .int .i64 er]) ∧ FRow t B w' v xs ∧ xs.map El.fd = fs

/-- the error of the first fields -/
def cutErr (most : Nat) (l : List Nat) : Int := if most ≤ (fieldsOf l).length then 0 else endOf l
theorem seq_any (a : Option Addr) (n c : Nat) (w : World) : Calls Tryd.prog 39 #[.slice a n c] w fun e w' => e = .returned (.func (.func 55) #[] #[.pointer (some ⟨w.heap.size, 0, none⟩)]) ∧ w' = w.alloc (.cells #[.slice a n c] 23) := by
  go_enter Tryd.func39, Tryd.ntmps39
  go_wp2
  go_ret
  exact ⟨rfl, rfl⟩

theorem field_info : (Tryd.prog.info? 43).map (fun i => (i.zero, i.size, i.bytes)) = some (some (.agg #[.int .u8 0, .slice none 0 0]), 2, 32) := by kernel_rfl

set_option maxRecDepth 100000 in
set_option maxHeartbeats 8000000 in
theorem fields_any (b off cap most : Nat) (l : List Nat) (w : World) (hw : Win w b off cap l) (h47 : l.length ≤ 1000000) (hm1 : 1 ≤ most) (hm2 : most ≤ 1000000) (hb : b < w.heap.size) :
    Calls Tryd.prog 13 #[.slice (some ⟨b, off, none⟩) l.length cap, .int .i64 most] w fun e w' =>
      FEnd 43 ((fieldsOf l).take most) (cutErr most l) w.heap.size e w' ∧ Below w.heap.size w w' := by
  obtain ⟨i0, hi, hz0, hz1, hz2⟩ := info_parts field_info
  have HW := Lib.hid hw
  clear hw
  refine callsIn_wide.1 (callsIn_of_wp_marks (n := 5) Tryd.func13 rfl trivial ?_ rfl)
  simp only [Tryd.ntmps13, List.size_toArray, List.length_cons, List.length_nil, Nat.reduceAdd, Nat.reduceSub, Array.replicate_succ, Array.replicate_zero, List.push_toArray, List.append_toArray, List.nil_append, List.cons_append]
  refine wpIn_wide.2 ?_
  go_wp2_with fail
  refine (seq_any _ _ _ _).mono ?_
  rintro e w1 ⟨rfl, hw1⟩
  obtain ⟨w1', h0, hm, hr1, hr2, hqo, hq, hsz, hbel⟩ := allocs5 w (.cells #[.int .i64 (most : Int)] 3) (.cells #[.slice none 0 0] 31) (.cells #[.int .i64 0] 3) (.cells #[.slice none 0 0] 31) (.cells #[.slice (some ⟨b, off, none⟩) l.length cap] 23)
  rw [← h0] at hw1
  subst hw1
  have HW1 := Lib.hid (HW.out.keep (W' := w1) (hbel.block b hb))
  have HBEL := Lib.hid hbel
  have HM := Lib.hid (show Boxed w1 w.heap.size 3 (.int .i64 (most : Int)) from hm)
  have HR1 := Lib.hid (show Boxed w1 (w.heap.size + 1) 31 (.slice none 0 0) from hr1)
  have HR2 := Lib.hid (show Boxed w1 (w.heap.size + 1 + 1) 3 (.int .i64 0) from hr2)
  have HQO := Lib.hid (show Boxed w1 (w.heap.size + 1 + 1 + 1) 31 (.slice none 0 0) from hqo)
  have HQ := Lib.hid (show Boxed w1 (w.heap.size + 1 + 1 + 1 + 1) 23 (.slice (some ⟨b, off, none⟩) l.length cap) from hq)
  clear h0 hm hr1 hr2 hqo hq hbel
  go_wp2_with fail
  refine (wpIn_wide (n := 5)).1 ?_
  have hseq := fields_iter (w.heap.size + 1 + 1 + 1 + 1) b off cap l w1 HQ.out HW1.out (by omega) (by omega) (by omega)
  rw [hsz] at hseq
  have HSZ := Lib.hid hsz
  have hszl : w.heap.size + 5 ≤ w1.heap.size := by omega
  have hszg : w1.heap.size ≤ w.heap.size + 5 := by omega
  clear hsz
  refine wpIn_rangeBox (n := 5) (w0 := w1) rfl (by omega) (gf := 55) (lb := #[.pointer (some ⟨w.heap.size + 1 + 1 + 1 + 1, 0, none⟩)]) rfl trivial (enters_of Tryd.func55 (by kernel_rfl) rfl)
    (encs := El.encs) (q := w.heap.size + 1 + 1 + 1 + 1) (L := [w.heap.size + 1 + 1 + 1 + 1, b]) (G := El.G (w.heap.size + 5))
    hseq (fun x W l o o' h hl hc => El.G_safe h (grownBy_putObj' W l o') (fun r e => by injection e with e; subst e; exact .inl ⟨o, hl, hc⟩))
    ⟨_, _, _, HQ.out⟩ (by intro i hi; simp at hi; omega) (Below.refl _ _) (fun _ => rfl)
    (fun pre W => CI 43 2 El.cells (El.G (w.heap.size + 5)) (w.heap.size + 5) (w.heap.size + 1 + 1 + 1) (w.heap.size + 1) (w.heap.size + 1 + 1) 31 3 w pre W ∧ Boxed W w.heap.size 3 (.int .i64 (most : Int)) ∧ ((∀ x ∈ pre, x.e = 0) ∧ pre.length < most))
    (fun c pre W => (c = .ret ∧ ∃ good x, pre = good ++ [x] ∧ ((∀ y ∈ good, y.e = 0) ∧ good.length < most) ∧ x.e ≠ 0 ∧ CX 43 2 El.cells (El.G (w.heap.size + 5)) (w.heap.size + 5) (w.heap.size + 1) (w.heap.size + 1 + 1) 31 3 w x.e good W) ∨
      (c = .exit 0 ∧ ((∀ x ∈ pre, x.e = 0) ∧ pre.length = most) ∧ CI 43 2 El.cells (El.G (w.heap.size + 5)) (w.heap.size + 5) (w.heap.size + 1 + 1 + 1) (w.heap.size + 1) (w.heap.size + 1 + 1) 31 3 w pre W))
    ?hI ?hIx ?hIq ?hIxq ?h0 (fun x a' W => ∃ Bx, Bk W Bx 40 #[.int .u8 (x.id : Int), x.v] ∧ a' = { tmps := #[.slice (some ⟨b, off, none⟩) l.length cap, .int .i64 (most : Int), undef, .pointer (some ⟨w.heap.size, 0, none⟩), .pointer (some ⟨w.heap.size + 1, 0, none⟩), .pointer (some ⟨w.heap.size + 1 + 1, 0, none⟩), .pointer (some ⟨w.heap.size + 1 + 1 + 1, 0, none⟩), .pointer (some ⟨Bx, 0, none⟩), .int .i64 x.e, .slice (some ⟨b, off, none⟩) l.length cap, .func (.func 55) #[] #[.pointer (some ⟨w.heap.size + 1 + 1 + 1 + 1, 0, none⟩)], .agg #[.int .u8 x.id, x.v], .int .i64 x.e, undef, undef, undef, undef, undef, undef, undef, undef, undef, undef, undef, undef, undef], defers := [] }) ?hAx ?assign ?body ?done ?stop
  case hI =>
    rintro pre W W' row ⟨h1, h2, h3⟩ hg hr
    have ht : Turns (w.heap.size + 5) (w.heap.size + 1 + 1 + 1 + 1) W row := fun r e => .inl ⟨by have := (hr r e).1; omega, (hr r e).2⟩
    exact ⟨h1.turn (El.sound _) hg ht ⟨by omega, by omega⟩ ⟨by omega, by omega, by omega⟩, Boxed_turn h2 hg ht (by omega), h3⟩
  case hIx =>
    rintro c pre W W' row h hg hr
    have ht : Turns (w.heap.size + 5) (w.heap.size + 1 + 1 + 1 + 1) W row := fun r e => .inl ⟨by have := (hr r e).1; omega, (hr r e).2⟩
    rcases h with ⟨rfl, good, x, h1, h2, h3, h4⟩ | ⟨rfl, h1, h2⟩
    · exact .inl ⟨rfl, good, x, h1, h2, h3, h4.turn (El.sound _) hg ht ⟨by omega, by omega⟩ ⟨by omega, by omega⟩⟩
    · exact .inr ⟨rfl, h1, h2.turn (El.sound _) hg ht ⟨by omega, by omega⟩ ⟨by omega, by omega, by omega⟩⟩
  case hIq =>
    rintro pre W W' row ⟨h1, h2, h3⟩ hg hr
    have ht : Turns (w.heap.size + 5) (w.heap.size + 1 + 1 + 1 + 1) W row := fun r e => .inr (by rcases hr with h | h <;> rw [h] at e <;> cases e; rfl)
    exact ⟨h1.turn (El.sound _) hg ht ⟨by omega, by omega⟩ ⟨by omega, by omega, by omega⟩, Boxed_turn h2 hg ht (by omega), h3⟩
  case hIxq =>
    rintro c pre W W' row h hg hr
    have ht : Turns (w.heap.size + 5) (w.heap.size + 1 + 1 + 1 + 1) W row := fun r e => .inr (by rcases hr with h | h <;> rw [h] at e <;> cases e; rfl)
    rcases h with ⟨rfl, good, x, h1, h2, h3, h4⟩ | ⟨rfl, h1, h2⟩
    · exact .inl ⟨rfl, good, x, h1, h2, h3, h4.turn (El.sound _) hg ht ⟨by omega, by omega⟩ ⟨by omega, by omega⟩⟩
    · exact .inr ⟨rfl, h1, h2.turn (El.sound _) hg ht ⟨by omega, by omega⟩ ⟨by omega, by omega, by omega⟩⟩
  case h0 => exact ⟨⟨LS.start HQO.out, HR1.out, HR2.out, HBEL.out, hszl⟩, HM.out, by simp, by simp; omega⟩
  case hAx =>
    rintro x a' W lr o o' ⟨Bx, h1, h2⟩ hl hc
    exact ⟨Bx, Bk_putObj o' h1 hl hc, h2⟩
  case assign =>
    rintro lr pre ⟨id, v, dl, er⟩ W K ⟨hci, hm, hp⟩ hg hK
    obtain ⟨av, cv, hv⟩ := BOwn_form hg.2
    change v = .slice av dl.length cv at hv
    subst hv
    have HCI := Lib.hid hci
    have HG := Lib.hid hg
    have HMM := Lib.hid hm
    have HP := Lib.hid hp
    have hsz9 := hci.2.2.2.2
    clear hci hm hp hg
    simp only [El.encs]
    gi_wp2
    have ht : ∀ V, Turns (w.heap.size + 5) (w.heap.size + 1 + 1 + 1 + 1) V none := fun _ r e => by cases e
    refine hK _ _ (KeepsOthers.alloc _ _) ⟨fun i hi => Below.heap_alloc _ _ _ ?_, by simp⟩ ⟨HCI.out.turn (El.sound _) (World.grownBy_alloc _ _ none) (ht _) ⟨by omega, by omega⟩ ⟨by omega, by omega, by omega⟩, HMM.out.alloc _, HP.out⟩ (El.G_safe HG.out (World.grownBy_alloc _ _ none) (Safe.none _ _)) ⟨_, Bk.new _ _ _, rfl⟩
    simp at hi
    omega
  case body =>
    rintro lr pre ⟨id, v, dl, er⟩ a' W ⟨⟨⟨vo, hv, hrow, hall⟩, hb1, hb2, hB, hN⟩, hm, hp, hlen⟩ hg hsp ⟨Bx, hbx, rfl⟩
    clear hsp
    obtain ⟨av, cv, hvv⟩ := BOwn_form hg.2
    change v = .slice av dl.length cv at hvv
    subst hvv
    obtain ⟨ao, co, rfl⟩ := row_form hrow
    have hc := hv.cell
    have hx0 := hbx.cellv (i := 0) rfl
    have hx1 := hbx.cellv (i := 1) rfl
    have hcm := hm.cell
    by_cases her : er = 0
    · subst her
      by_cases hlast : pre.length + 1 = most
      · have HLAST := Lib.hid hlast
        have hbeq : ((pre.length : Int) + 1 == (most : Int)) = true := beq_iff_eq.2 (by omega)
        clear hlast
        gi_wp2_with (gi_at_builtin; refine wpListIn_append_own _ rfl _ _ 31 rfl (w.heap.size + 5) 43 i0 (.agg #[.int .u8 0, .slice none 0 0]) 2 32 Tryd.underlying31 hi hz0 hz1 hz2 rfl (by decide) _ _ _ rfl (hrow.alloc _) ⟨W.heap.size, 0, none⟩ 1 1 [.int .u8 id, .slice av dl.length cv] rfl rfl (cells_lit W [.int .u8 id, .slice av dl.length cv] _) (by intro u hu; simp at hu; rcases hu with rfl | rfl <;> rfl) (by unfold maxLen; omega) (by omega) (by simp; omega) ?_; intro v' w2 hown' hgrow _; obtain ⟨g', cap', rfl⟩ := ownsRow_succ hown'; obtain ⟨hv1, hls, hko, hold, hbe, hsz2⟩ := LS.appended (x := (⟨id, .slice av dl.length cv, dl, 0⟩ : El)) hv hrow hall hg (El.sound _) (by decide) (by decide) (by decide) hN hown' hgrow; have hc1 := hv1.cell; have hf1 := hv1.frozen; have HLS := Lib.hid hls; have HKO := Lib.hid hko; have HOLD := Lib.hid hold; have HBE := Lib.hid hbe; have hm3 : Boxed _ w.heap.size 3 (.int .i64 (most : Int)) := (hold w.heap.size (by omega) (by omega)).trans hm; have hcm3 := hm3.cell; clear hls hko hold hbe hv1 hgrow hown' hm3)
        refine ⟨HKO.out, .inr ⟨rfl, ⟨fun x hx => ?_, by simp; exact HLAST.out⟩, HLS.out, (HOLD.out (w.heap.size + 1) (by omega) (by omega)).trans hb1, (HOLD.out (w.heap.size + 1 + 1) (by omega) (by omega)).trans hb2, hB.trans (HBE.out _ (by omega) (by omega)), Nat.le_trans hN hsz2⟩⟩
        rcases List.mem_append.1 hx with hx | hx
        · exact hp x hx
        · simp at hx; subst hx; rfl
      · have hbeq : ((pre.length : Int) + 1 == (most : Int)) = false := beq_eq_false_iff_ne.2 (by omega)
        gi_wp2_with (gi_at_builtin; refine wpListIn_append_own _ rfl _ _ 31 rfl (w.heap.size + 5) 43 i0 (.agg #[.int .u8 0, .slice none 0 0]) 2 32 Tryd.underlying31 hi hz0 hz1 hz2 rfl (by decide) _ _ _ rfl (hrow.alloc _) ⟨W.heap.size, 0, none⟩ 1 1 [.int .u8 id, .slice av dl.length cv] rfl rfl (cells_lit W [.int .u8 id, .slice av dl.length cv] _) (by intro u hu; simp at hu; rcases hu with rfl | rfl <;> rfl) (by unfold maxLen; omega) (by omega) (by simp; omega) ?_; intro v' w2 hown' hgrow _; obtain ⟨g', cap', rfl⟩ := ownsRow_succ hown'; obtain ⟨hv1, hls, hko, hold, hbe, hsz2⟩ := LS.appended (x := (⟨id, .slice av dl.length cv, dl, 0⟩ : El)) hv hrow hall hg (El.sound _) (by decide) (by decide) (by decide) hN hown' hgrow; have hc1 := hv1.cell; have hf1 := hv1.frozen; have HLS := Lib.hid hls; have HKO := Lib.hid hko; have HOLD := Lib.hid hold; have HBE := Lib.hid hbe; have hm3 : Boxed _ w.heap.size 3 (.int .i64 (most : Int)) := (hold w.heap.size (by omega) (by omega)).trans hm; have hcm3 := hm3.cell; clear hls hko hold hbe hv1 hgrow hown' hm3)
        refine ⟨HKO.out, ⟨fun i hi => HOLD.out i (by simp at hi; omega) (by simp at hi; omega), hsz2⟩, ⟨HLS.out, (HOLD.out (w.heap.size + 1) (by omega) (by omega)).trans hb1, (HOLD.out (w.heap.size + 1 + 1) (by omega) (by omega)).trans hb2, hB.trans (HBE.out _ (by omega) (by omega)), Nat.le_trans hN hsz2⟩, (HOLD.out w.heap.size (by omega) (by omega)).trans hm, fun x hx => ?_, by simp; omega⟩
        rcases List.mem_append.1 hx with hx | hx
        · exact hp x hx
        · simp at hx; subst hx; rfl
    · have hne : ((er : Int) != 0) = true := bne_iff_ne.2 her
      have hc1 := hb1.cell
      have hf1 := hb1.frozen
      have hc2 := hb2.cell
      have hf2 := hb2.frozen
      have HX := Lib.hid her
      clear her
      gi_wp2
      refine ⟨(KeepsOthers.setCell _ _ _).trans (KeepsOthers.setCell _ _ _), .inl ⟨rfl, pre, ⟨id, .slice av dl.length cv, dl, er⟩, rfl, ⟨hp, hlen⟩, HX.out, ?_⟩⟩
      have hm1 := LS.moved hrow hall (El.sound _) hb1 (by decide) (by decide)
      refine ⟨hm1.grown (El.sound _) (grownBy_setCell' _ (w.heap.size + 1 + 1) _) (fun r e => by injection e with e; exact .inr ⟨by omega, by omega⟩), ((hb2.kept (grownBy_setCell' W (w.heap.size + 1) _) (by simp)).set _), (hB.setCell (p := ⟨w.heap.size + 1, 0, none⟩) (by show _ ≤ w.heap.size + 1; omega) _).setCell (p := ⟨w.heap.size + 1 + 1, 0, none⟩) (by show _ ≤ w.heap.size + 1 + 1; omega) _⟩
  case done =>
    rintro D xs W hD hS ⟨⟨⟨v, hv, hrow, hall⟩, hb1, hb2, hB, hN⟩, hm, hp, hlen⟩ hK
    obtain ⟨ao, co, rfl⟩ := row_form hrow
    have hS' : (xs.map El.fd).map okEl = elsOf l := by rw [← El.gh_ok hp]; exact hS
    have ht := told_all hS'
    have HFD := Lib.hid (show xs.map El.fd = (fieldsOf l).take most by rw [ht.1, List.take_of_length_le (by simp; omega)])
    have HCE := Lib.hid (show cutErr most l = 0 by unfold cutErr; rw [ht.2]; simp)
    clear hS hS' ht hp hlen hm hN
    have hc := hv.cell
    have hc1 := hb1.cell
    have hf1 := hb1.frozen
    have hc2 := hb2.cell
    have hf2 := hb2.frozen
    have hm1 := LS.moved hrow hall (El.sound _) hb1 (by decide) (by decide)
    have HLS := Lib.hid (hm1.grown (El.sound _) (grownBy_setCell' _ (w.heap.size + 1 + 1) (.int .i64 0)) (fun r e => by injection e with e; exact .inr ⟨by omega, by omega⟩))
    have HB2 := Lib.hid ((hb2.kept (grownBy_setCell' W (w.heap.size + 1) (.slice ao xs.length co)) (by simp)).set (.int .i64 0))
    have HBB := Lib.hid ((hB.setCell (p := ⟨w.heap.size + 1, 0, none⟩) (by show _ ≤ w.heap.size + 1; omega) (.slice ao xs.length co)).setCell (p := ⟨w.heap.size + 1 + 1, 0, none⟩) (by show _ ≤ w.heap.size + 1 + 1; omega) (.int .i64 0))
    have HKD : ((W.setCell ⟨w.heap.size + 1, 0, none⟩ (.slice ao xs.length co)).setCell ⟨w.heap.size + 1 + 1, 0, none⟩ (.int .i64 0)).heap[D]? = some (.deferred (some [])) := ((KeepsOthers.setCell _ _ _).trans (KeepsOthers.setCell _ _ _)).same D _ hK rfl
    have HDD := Lib.hid hD
    clear hv hrow hall hb1 hb2 hB hm1 hK hD
    go_wp2_with fail
    refine ⟨by simp, .inl ⟨_, _, rfl, run_takeDeferred HKD, ?_⟩⟩
    have hLL := HLS.out.grown (El.sound _) (grownBy_putObj' _ D (.deferred none)) (fun r e => by injection e with e; subst e; exact .inl ⟨_, HKD, rfl⟩)
    obtain ⟨vv, hvv, hrw, hal⟩ := hLL
    refine ⟨_, results_boxes2 rfl _ _ ⟨w.heap.size + 1, 0, none⟩ ⟨w.heap.size + 1 + 1, 0, none⟩ _ _ rfl rfl (by kernel_rfl) (by kernel_rfl) hvv.cell (Boxed.cell (Bk_putObj _ HB2.out HKD rfl)), ⟨vv, xs, by rw [HCE.out], ⟨row_lower hrw (by omega), fun x hx => El.G_lower (hal x hx) (by omega)⟩, HFD.out⟩, HBB.out.trans (belowK_b (w := w) (Nat.le_refl _) _ D _ _ (by have := HDD.out; omega) HKD rfl rfl)⟩
  case stop =>
    rintro D c pre W hD hSp hx hK
    rcases hx with ⟨rfl, good, x, rfl, ⟨hp, hlen⟩, hne, hls, hb2, hB⟩ | ⟨rfl, ⟨hp, hlen⟩, ⟨v, hv, hrow, hall⟩, hb1, hb2, hB, hN⟩
    · rw [List.map_append, El.gh_ok hp] at hSp
      have ht := told_err (x := x.gh) hne hSp
      have he : x.e = 2 := congrArg (fun y : Nat × List Nat × Int => y.2.2) ht.2.2
      have hl : (fieldsOf l).length = good.length := by rw [ht.1]; simp
      have HFD := Lib.hid (show good.map El.fd = (fieldsOf l).take most by rw [ht.1, List.take_of_length_le (by simp; omega)])
      have HCE := Lib.hid (show cutErr most l = x.e by unfold cutErr; rw [if_neg (by omega), ht.2.1, he])
      have HLS := Lib.hid hls
      have HB2 := Lib.hid hb2
      have HBB := Lib.hid hB
      have HDD := Lib.hid hD
      have HKD := hK
      clear hSp ht he hl hp hlen hne hls hb2 hB hD hK
      gi_wp2
      refine ⟨by simp, .inl ⟨_, _, rfl, run_takeDeferred HKD, ?_⟩⟩
      have hLL := HLS.out.grown (El.sound _) (grownBy_putObj' _ D (.deferred none)) (fun r e => by injection e with e; subst e; exact .inl ⟨_, HKD, rfl⟩)
      obtain ⟨vv, hvv, hrw, hal⟩ := hLL
      refine ⟨_, results_boxes2 rfl _ _ ⟨w.heap.size + 1, 0, none⟩ ⟨w.heap.size + 1 + 1, 0, none⟩ _ _ rfl rfl (by kernel_rfl) (by kernel_rfl) hvv.cell (Boxed.cell (Bk_putObj _ HB2.out HKD rfl)), ⟨vv, good, by rw [HCE.out], ⟨row_lower hrw (by omega), fun x hx => El.G_lower (hal x hx) (by omega)⟩, HFD.out⟩, HBB.out.trans (belowK_b (w := w) (Nat.le_refl _) _ D _ _ (by have := HDD.out; omega) HKD rfl rfl)⟩
    · obtain ⟨ao, co, rfl⟩ := row_form hrow
      rw [El.gh_ok hp] at hSp
      have ht := told_some hSp
      have hl : pre.length = (pre.map El.fd).length := by simp
      have HFD := Lib.hid (show pre.map El.fd = (fieldsOf l).take most by rw [ht.1, ← hl, hlen])
      have HCE := Lib.hid (show cutErr most l = 0 by unfold cutErr; rw [if_pos (by rw [← hlen, hl]; exact ht.2)])
      clear hSp ht hl hp hlen hN
      gi_wp2
      have hc := hv.cell
      have hc1 := hb1.cell
      have hf1 := hb1.frozen
      have hc2 := hb2.cell
      have hf2 := hb2.frozen
      have hm1 := LS.moved hrow hall (El.sound _) hb1 (by decide) (by decide)
      have HLS := Lib.hid (hm1.grown (El.sound _) (grownBy_setCell' _ (w.heap.size + 1 + 1) (.int .i64 0)) (fun r e => by injection e with e; exact .inr ⟨by omega, by omega⟩))
      have HB2 := Lib.hid ((hb2.kept (grownBy_setCell' W (w.heap.size + 1) (.slice ao pre.length co)) (by simp)).set (.int .i64 0))
      have HBB := Lib.hid ((hB.setCell (p := ⟨w.heap.size + 1, 0, none⟩) (by show _ ≤ w.heap.size + 1; omega) (.slice ao pre.length co)).setCell (p := ⟨w.heap.size + 1 + 1, 0, none⟩) (by show _ ≤ w.heap.size + 1 + 1; omega) (.int .i64 0))
      have HKD : ((W.setCell ⟨w.heap.size + 1, 0, none⟩ (.slice ao pre.length co)).setCell ⟨w.heap.size + 1 + 1, 0, none⟩ (.int .i64 0)).heap[D]? = some (.deferred (some [])) := ((KeepsOthers.setCell _ _ _).trans (KeepsOthers.setCell _ _ _)).same D _ hK rfl
      have HDD := Lib.hid hD
      clear hv hrow hall hb1 hb2 hB hm1 hK hD
      go_wp2_with fail
      refine ⟨by simp, .inl ⟨_, _, rfl, run_takeDeferred HKD, ?_⟩⟩
      have hLL := HLS.out.grown (El.sound _) (grownBy_putObj' _ D (.deferred none)) (fun r e => by injection e with e; subst e; exact .inl ⟨_, HKD, rfl⟩)
      obtain ⟨vv, hvv, hrw, hal⟩ := hLL
      refine ⟨_, results_boxes2 rfl _ _ ⟨w.heap.size + 1, 0, none⟩ ⟨w.heap.size + 1 + 1, 0, none⟩ _ _ rfl rfl (by kernel_rfl) (by kernel_rfl) hvv.cell (Boxed.cell (Bk_putObj _ HB2.out HKD rfl)), ⟨vv, pre, by rw [HCE.out], ⟨row_lower hrw (by omega), fun x hx => El.G_lower (hal x hx) (by omega)⟩, HFD.out⟩, HBB.out.trans (belowK_b (w := w) (Nat.le_refl _) _ D _ _ (by have := HDD.out; omega) HKD rfl rfl)⟩
end Go.Proofs.YtcibhchbgendaaaDoor.Sf
