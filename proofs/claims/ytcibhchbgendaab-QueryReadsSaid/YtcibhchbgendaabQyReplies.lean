/- The walk of query.replies: the data of all replies in what came. -/
import Derived.Test.YtcibhchbgendaabSfFields
import Derived.Test.YtcibhchbgendaabQyPure
namespace Go.Proofs.Ytcibhchbgendaab.Qy
open Go Go.RowKit Go.Shelf Go.Proofs.Ytcibhchbgendaab.By Go.Proofs.Ytcibhchbgendaab.Rg Go.Proofs.Ytcibhchbgendaab.Sf
attribute [local go_sem] Oper.semAt_some

theorem slice_info : (Try.prog.info? 22).map (fun i => (i.zero, i.size, i.bytes)) = some (some (.slice none 0 0), 1, 24) := by kernel_rfl
/-- a reply in memory: its data -/
def vcell (x : El) : List Value := [x.v]
/-- how the call ends -/
def ReEnd (r : List (List Nat) × Int) (B : Nat) (e : Ending) (w' : World) : Prop := ∃ (v : Value) (xs : List El), e = .returned (.tuple #[v, .int .i64 r.2]) ∧ (w'.ownsRow B 22 1 v xs.length (xs.flatMap vcell) ∧ ∀ x ∈ xs, El.G B x w') ∧ xs.map El.l = r.1
/-- what it holds when it is left -/
def CN (w : World) (er : Int) (W : World) : Prop := Boxed W (w.heap.size) 94 (.slice none 0 0) ∧ Boxed W (w.heap.size + 1) 40 (.int .i64 er) ∧ Below w.heap.size w W
theorem CN.turn {w W W' : World} {er : Int} {row : Option Nat} (h : CN w er W) (hg : W.grownBy W' row) (ht : Turns (w.heap.size + 4) (w.heap.size + 1 + 1 + 1) W row) : CN w er W' :=
  ⟨Boxed_turn h.1 hg ht (by omega), Boxed_turn h.2.1 hg ht (by omega), Below_turn h.2.2 (Nat.le_refl _) hg ht (by omega) (by omega)⟩
def okR (x : El) : Prop := x.e = 0 ∧ goodEl x.fd = true
/-- what the loop holds between two rounds -/
def RI (w : World) (pre : List El) (W : World) : Prop := CI 22 1 vcell (El.G (w.heap.size + 4)) (w.heap.size + 4) (w.heap.size + 1 + 1) (w.heap.size) (w.heap.size + 1) 94 40 w pre W ∧ ∀ x ∈ pre, okR x
/-- what it holds when it is left -/
def RX (w : World) (c : Code) (pre : List El) (W : World) : Prop := c = .ret ∧ ∃ good x er, pre = good ++ [x] ∧ (∀ y ∈ good, okR y) ∧ ((x.e ≠ 0 ∧ er = x.e) ∨ (x.e = 0 ∧ goodEl x.fd = false ∧ er = 4)) ∧ CN w er W

theorem re_ok {r : List Nat} {xs : List El} (hp : ∀ x ∈ xs, okR x) (h : fieldsOf r = xs.map El.fd) (he : endOf r = 0) : repliesOf (136 :: r) = (xs.map El.l, 0) := by
  have h1 : (fieldsOf r).all goodEl = true := by
    rw [h, List.all_map, List.all_eq_true]
    exact fun x hx => (hp x hx).2
  have h2 : (fieldsOf r).map (·.2) = xs.map El.l := by
    rw [h, List.map_map]
    rfl
  unfold repliesOf
  simp [h1, he, h2]
theorem re_err {r : List Nat} {xs : List El} (hp : ∀ x ∈ xs, okR x) (h : fieldsOf r = xs.map El.fd) (he : endOf r ≠ 0) : repliesOf (136 :: r) = ([], endOf r) := by
  have h1 : (fieldsOf r).all goodEl = true := by
    rw [h, List.all_map, List.all_eq_true]
    exact fun x hx => (hp x hx).2
  unfold repliesOf
  simp [h1, he]
theorem re_bad {r : List Nat} {f : Nat × List Nat} (hf : f ∈ fieldsOf r) (hb : goodEl f = false) : repliesOf (136 :: r) = ([], 4) := by
  have h1 : ¬ (fieldsOf r).all goodEl = true := by
    rw [List.all_eq_true]
    intro h
    rw [h f hf] at hb
    cases hb
  unfold repliesOf
  simp [h1]

set_option maxRecDepth 100000 in
set_option maxHeartbeats 8000000 in
theorem replies_more (g n cap : Nat) (r : List Nat) (B : Nat) (w : World) (hw : BOwn B w (.slice (some ⟨g, 0, none⟩) n cap) (136 :: r)) (h47 : r.length ≤ 100000) :
    Calls Try.prog 61 #[.slice (some ⟨g, 0, none⟩) n cap] w fun e w' => ReEnd (repliesOf (136 :: r)) w.heap.size e w' ∧ Below w.heap.size w w' := by
  obtain ⟨i0, hi, hz0, hz1, hz2⟩ := info_parts slice_info
  have hn : n = r.length + 1 := by
    obtain ⟨a, c, e⟩ := BOwn_form hw
    injection e
  have hcap : n ≤ cap ∧ cap ≤ maxLen := by
    rcases hw.row with ⟨e, _⟩ | ⟨a, c, e, h4, h5, _⟩
    · cases e
    · injection e with e1 e2 e3
      subst e3
      exact ⟨by omega, h5⟩
  have hg : g < w.heap.size := by
    rcases hw.lt with h | ⟨g', n', c', h, _, hlt⟩
    · cases h
    · injection h with h; injection h with h; injection h with h; subst h; exact hlt
  have hc0 := BOwn_cell hw (i := 0) (x := 136) rfl
  obtain ⟨A4, hA, ⟨o', rfl⟩, hsl⟩ := slice_rest g 0 cap 1 n (by omega)
  have hwin : ∀ W : World, W.heap[g]? = w.heap[g]? → Win W g o' (cap - 1) r := by
    intro W hW
    refine ⟨by omega, by omega, fun i x hi => ?_, fun x hx => hw.1 x (List.mem_cons_of_mem _ hx)⟩
    have hil := (List.getElem?_eq_some_iff.1 hi).1
    have ho : o' = 1 := by
      have := hA (by omega)
      injection this
    subst ho
    have h1 := BOwn_cell hw (i := i + 1) (x := x) (by simpa using hi)
    rw [show 1 + i = i + 1 by omega]
    exact (cell_of_block (p := ⟨g, i + 1, none⟩) hW).trans h1
  have HWIN := Lib.hid hwin
  have hnl : n - 1 = r.length := by omega
  rw [hnl] at hsl
  have hs1 : ∀ w : World, (Instr.slice 22 (.slice (some ⟨g, 0, none⟩) n cap) (some (.int .i64 1)) none none).run Try.prog w = .ok (.slice (some ⟨g, o', none⟩) r.length (cap - 1)) w := hsl
  clear hsl
  obtain ⟨l, hl⟩ : ∃ l, l = r := ⟨_, rfl⟩
  subst hl
  obtain ⟨c2, hc2⟩ : ∃ c2, c2 = cap - 1 := ⟨_, rfl⟩
  rw [← hc2] at hs1 HWIN
  have hn1 : ((n : Int) == 0) = false := beq_eq_false_iff_ne.2 (by omega)
  have hn0 : (0 : Int) < (n : Int) := by omega
  clear hw hwin hA hn hcap hnl hc2
  refine callsIn_wide.1 (callsIn_of_wp_marks (n := 5) Try.func61 rfl trivial ?_ rfl)
  simp only [Try.ntmps61, List.size_toArray, List.length_cons, List.length_nil, Nat.reduceAdd, Nat.reduceSub, Array.replicate_succ, Array.replicate_zero, List.push_toArray, List.append_toArray, List.nil_append, List.cons_append]
  refine wpIn_wide.2 ?_
  go_wp2_with fail
  refine (seq_any _ _ _ _).mono ?_
  rintro e w1 ⟨rfl, hw1⟩
  obtain ⟨w1', h0, hr1, hr2, hqo, hq, hsz, hbel⟩ := allocs4 w (.cells #[.slice none 0 0] 94) (.cells #[.int .i64 0] 40) (.cells #[.slice none 0 0] 94) (.cells #[.slice (some ⟨g, o', none⟩) l.length c2] 22)
  rw [← h0] at hw1
  subst hw1
  have HW1 := Lib.hid (HWIN.out w1 (hbel.block g hg))
  have HBEL := Lib.hid hbel
  have HR1 := Lib.hid (show Boxed w1 (w.heap.size) 94 (.slice none 0 0) from hr1)
  have HR2 := Lib.hid (show Boxed w1 (w.heap.size + 1) 40 (.int .i64 0) from hr2)
  have HQO := Lib.hid (show Boxed w1 (w.heap.size + 1 + 1) 94 (.slice none 0 0) from hqo)
  have HQ := Lib.hid (show Boxed w1 (w.heap.size + 1 + 1 + 1) 22 (.slice (some ⟨g, o', none⟩) l.length c2) from hq)
  clear h0 hr1 hr2 hqo hq hbel hs1
  go_wp2_with fail
  refine (wpIn_wide (n := 5)).1 ?_
  have hseq := fields_iter (w.heap.size + 1 + 1 + 1) g o' c2 l w1 HQ.out HW1.out (by omega) (by omega) (by omega)
  rw [hsz] at hseq
  have HSZ := Lib.hid hsz
  have hszl : w.heap.size + 4 ≤ w1.heap.size := by omega
  have hszg : w1.heap.size ≤ w.heap.size + 4 := by omega
  clear hsz
  refine wpIn_rangeBox (n := 5) (w0 := w1) rfl (by omega) (gf := 87) (lb := #[.pointer (some ⟨w.heap.size + 1 + 1 + 1, 0, none⟩)]) rfl trivial (enters_of Try.func87 (by kernel_rfl) rfl)
    (encs := El.encs) (q := w.heap.size + 1 + 1 + 1) (L := [w.heap.size + 1 + 1 + 1, g]) (G := El.G (w.heap.size + 4))
    hseq (fun x W l o o' h hl hc => El.G_safe h (grownBy_putObj' W l o') (fun r e => by injection e with e; subst e; exact .inl ⟨o, hl, hc⟩))
    ⟨_, _, _, HQ.out⟩ (by intro i hi; simp at hi; omega) (Below.refl _ _) (fun _ => rfl)
    (RI w)
    (RX w)
    ?hI ?hIx ?hIq ?hIxq ?h0 (fun x a' W => ∃ Bx, Bk W Bx 135 #[.int .u8 (x.id : Int), x.v] ∧ a' = { tmps := #[.slice (some ⟨g, 0, none⟩) n cap, undef, .pointer (some ⟨w.heap.size, 0, none⟩), .pointer (some ⟨w.heap.size + 1, 0, none⟩), .pointer (some ⟨w.heap.size + 1 + 1, 0, none⟩), .pointer (some ⟨Bx, 0, none⟩), .int .i64 x.e, .bool false, .slice (some ⟨g, 0, none⟩) n cap, .int .i64 (n : Int), .bool false, .bool false, .slice (some ⟨g, 0, none⟩) n cap, .pointer (some ⟨g, 0, none⟩), .int .u8 136, .bool false, .slice (some ⟨g, 0, none⟩) n cap, .slice (some ⟨g, o', none⟩) l.length c2, .func (.func 87) #[] #[.pointer (some ⟨w.heap.size + 1 + 1 + 1, 0, none⟩)], .agg #[.int .u8 x.id, x.v], .int .i64 x.e, undef, undef, undef, undef, undef, undef, undef, undef, undef, undef, undef, undef, undef, undef, undef, undef, undef, undef, undef, undef], defers := [] }) ?hAx ?assign ?body ?done ?stop
  case hI =>
    rintro pre W W' row ⟨h1, h3⟩ hg hr
    have ht : Turns (w.heap.size + 4) (w.heap.size + 1 + 1 + 1) W row := fun r e => .inl ⟨by have := (hr r e).1; omega, (hr r e).2⟩
    exact ⟨h1.turn (El.sound _) hg ht ⟨by omega, by omega⟩ ⟨by omega, by omega, by omega⟩, h3⟩
  case hIx =>
    rintro c pre W W' row ⟨rfl, good, x, er, h1, h2, h3, h4⟩ hg hr
    have ht : Turns (w.heap.size + 4) (w.heap.size + 1 + 1 + 1) W row := fun r e => .inl ⟨by have := (hr r e).1; omega, (hr r e).2⟩
    exact ⟨rfl, good, x, er, h1, h2, h3, h4.turn hg ht⟩
  case hIq =>
    rintro pre W W' row ⟨h1, h3⟩ hg hr
    have ht : Turns (w.heap.size + 4) (w.heap.size + 1 + 1 + 1) W row := fun r e => .inr (by rcases hr with h | h <;> rw [h] at e <;> cases e; rfl)
    exact ⟨h1.turn (El.sound _) hg ht ⟨by omega, by omega⟩ ⟨by omega, by omega, by omega⟩, h3⟩
  case hIxq =>
    rintro c pre W W' row ⟨rfl, good, x, er, h1, h2, h3, h4⟩ hg hr
    have ht : Turns (w.heap.size + 4) (w.heap.size + 1 + 1 + 1) W row := fun r e => .inr (by rcases hr with h | h <;> rw [h] at e <;> cases e; rfl)
    exact ⟨rfl, good, x, er, h1, h2, h3, h4.turn hg ht⟩
  case h0 => exact ⟨⟨LS.start HQO.out, HR1.out, HR2.out, HBEL.out, hszl⟩, by simp⟩
  case hAx =>
    rintro x a' W lr o o' ⟨Bx, h1, h2⟩ hl hc
    exact ⟨Bx, Bk_putObj o' h1 hl hc, h2⟩
  case assign =>
    rintro lr pre ⟨id, v, dl, er⟩ W K ⟨hci, hp⟩ hg hK
    obtain ⟨av, cv, hv⟩ := BOwn_form hg.2
    change v = .slice av dl.length cv at hv
    subst hv
    have HCI := Lib.hid hci
    have HG := Lib.hid hg
    have HP := Lib.hid hp
    have hsz9 := hci.2.2.2.2
    clear hci hp hg
    simp only [El.encs]
    gi_wp2
    have ht : ∀ V, Turns (w.heap.size + 4) (w.heap.size + 1 + 1 + 1) V none := fun _ r e => by cases e
    refine hK _ _ (KeepsOthers.alloc _ _) ⟨fun i hi => Below.heap_alloc _ _ _ ?_, by simp⟩ ⟨HCI.out.turn (El.sound _) (World.grownBy_alloc _ _ none) (ht _) ⟨by omega, by omega⟩ ⟨by omega, by omega, by omega⟩, HP.out⟩ (El.G_safe HG.out (World.grownBy_alloc _ _ none) (Safe.none _ _)) ⟨_, Bk.new _ _ _, rfl⟩
    simp at hi
    omega
  case body =>
    rintro lr pre ⟨id, v, dl, er⟩ a' W ⟨⟨⟨vo, hv, hrow, hall⟩, hb1, hb2, hB, hN⟩, hp⟩ hg hsp ⟨Bx, hbx, rfl⟩
    have hlen : pre.length + 1 ≤ 1000001 := by
      have h1 := hsp.length_le
      have h2 := fieldsOf_len l
      have h3 : (elsOf l).length ≤ (fieldsOf l).length + 1 := by
        rw [(elsOf_split l).1]
        split <;> simp
      simp at h1
      omega
    clear hsp
    obtain ⟨av, cv, hvv⟩ := BOwn_form hg.2
    change v = .slice av dl.length cv at hvv
    subst hvv
    obtain ⟨ao, co, rfl⟩ := row_form hrow
    have hc := hv.cell
    have hx0 := hbx.cellv (i := 0) rfl
    have hx1 := hbx.cellv (i := 1) rfl
    have hc1 := hb1.cell
    have hf1 := hb1.frozen
    have hc2 := hb2.cell
    have hf2 := hb2.frozen
    obtain ⟨nd, hnd⟩ : ∃ nd, nd = dl.length := ⟨_, rfl⟩
    rw [← hnd] at hg hx1 ⊢
    have HND := Lib.hid hnd
    have HG := Lib.hid hg
    clear hnd hg
    have hcn : ∀ e : Int, CN w e ((W.setCell ⟨w.heap.size, 0, none⟩ (.slice none 0 0)).setCell ⟨w.heap.size + 1, 0, none⟩ (.int .i64 e)) := fun e =>
      ⟨(hb1.set _).kept (grownBy_setCell' _ (w.heap.size + 1) _) (by simp), ((hb2.kept (grownBy_setCell' W (w.heap.size) _) (by simp)).set _), (hB.setCell (p := ⟨w.heap.size, 0, none⟩) (by show _ ≤ w.heap.size; omega) _).setCell (p := ⟨w.heap.size + 1, 0, none⟩) (by show _ ≤ w.heap.size + 1; omega) _⟩
    have HCN := Lib.hid hcn
    clear hcn
    by_cases her : er = 0
    · subst her
      by_cases hid : id = 129
      · subst hid
        by_cases hz : nd = 0
        · subst hz
          gi_wp2
          refine ⟨(KeepsOthers.setCell _ _ _).trans (KeepsOthers.setCell _ _ _), rfl, pre, ⟨129, .slice av 0 cv, dl, 0⟩, 4, rfl, hp, .inr ⟨rfl, ?_, rfl⟩, HCN.out 4⟩
          have : dl = [] := List.length_eq_zero_iff.1 HND.out.symm
          subst this
          rfl
        · have hzq : ((nd : Int) == 0) = false := beq_eq_false_iff_ne.2 (by omega)
          have HZ := Lib.hid hz
          clear hc1 hf1 hc2 hf2 hz
          gi_wp2_with (gi_at_builtin; refine wpListIn_append_own _ rfl _ _ 94 rfl (w.heap.size + 4) 22 i0 (.slice none 0 0) 1 24 Try.underlying94 hi hz0 hz1 hz2 rfl (by decide) _ _ _ rfl (hrow.alloc _) ⟨W.heap.size, 0, none⟩ 1 1 [.slice av nd cv] rfl rfl (cells_lit W [.slice av nd cv] _) (by intro u hu; simp at hu; subst hu; rfl) (by unfold maxLen; omega) (by omega) (by simp; omega) ?_; intro v' w2 hown' hgrow _; obtain ⟨g', cap', rfl⟩ := ownsRow_succ hown'; obtain ⟨hv1, hls, hko, hold, hbe, hsz2⟩ := LS.appended (x := (⟨129, .slice av nd cv, dl, 0⟩ : El)) hv hrow hall HG.out (El.sound _) (by decide) (by decide) (by decide) hN hown' hgrow; have hc1 := hv1.cell; have hf1 := hv1.frozen; have HLS := Lib.hid hls; have HKO := Lib.hid hko; have HOLD := Lib.hid hold; have HBE := Lib.hid hbe; clear hls hko hold hbe hv1 hgrow hown')
          refine ⟨HKO.out, ⟨fun i hi => HOLD.out i (by simp at hi; omega) (by simp at hi; omega), hsz2⟩, ⟨HLS.out, (HOLD.out (w.heap.size) (by omega) (by omega)).trans hb1, (HOLD.out (w.heap.size + 1) (by omega) (by omega)).trans hb2, hB.trans (HBE.out _ (by omega) (by omega)), Nat.le_trans hN hsz2⟩, fun x hx => ?_⟩
          rcases List.mem_append.1 hx with hx | hx
          · exact hp x hx
          · simp at hx
            subst hx
            refine ⟨rfl, ?_⟩
            cases dl with
            | nil => exact absurd HND.out HZ.out
            | cons => rfl
      · have hidq : ((id : Int) != 129) = true := bne_iff_ne.2 (by omega)
        have HID := Lib.hid hid
        clear hid
        gi_wp2
        refine ⟨(KeepsOthers.setCell _ _ _).trans (KeepsOthers.setCell _ _ _), rfl, pre, ⟨id, .slice av nd cv, dl, 0⟩, 4, rfl, hp, .inr ⟨rfl, ?_, rfl⟩, HCN.out 4⟩
        show (id == 129 && _) = false
        rw [beq_eq_false_iff_ne.2 HID.out]
        rfl
    · have hne : ((er : Int) != 0) = true := bne_iff_ne.2 her
      have HX := Lib.hid her
      clear her
      gi_wp2
      exact ⟨(KeepsOthers.setCell _ _ _).trans (KeepsOthers.setCell _ _ _), rfl, pre, ⟨id, .slice av nd cv, dl, er⟩, er, rfl, hp, .inl ⟨HX.out, rfl⟩, HCN.out er⟩
  case done =>
    rintro D xs W hD hS ⟨⟨⟨v, hv, hrow, hall⟩, hb1, hb2, hB, hN⟩, hp⟩ hK
    obtain ⟨ao, co, rfl⟩ := row_form hrow
    have hp0 : ∀ x ∈ xs, x.e = 0 := fun x hx => (hp x hx).1
    have hS' : (xs.map El.fd).map okEl = elsOf l := by rw [← El.gh_ok hp0]; exact hS
    have ht := told_all hS'
    have HRE := Lib.hid (re_ok hp ht.1 ht.2)
    clear hS hS' ht hp hN hp0
    have hc := hv.cell
    have hc1 := hb1.cell
    have hf1 := hb1.frozen
    have hc2 := hb2.cell
    have hf2 := hb2.frozen
    have hm1 := LS.moved hrow hall (El.sound _) hb1 (by decide) (by decide)
    have HLS := Lib.hid (hm1.grown (El.sound _) (grownBy_setCell' _ (w.heap.size + 1) (.int .i64 0)) (fun r e => by injection e with e; exact .inr ⟨by omega, by omega⟩))
    have HB2 := Lib.hid ((hb2.kept (grownBy_setCell' W (w.heap.size) (.slice ao xs.length co)) (by simp)).set (.int .i64 0))
    have HBB := Lib.hid ((hB.setCell (p := ⟨w.heap.size, 0, none⟩) (by show _ ≤ w.heap.size; omega) (.slice ao xs.length co)).setCell (p := ⟨w.heap.size + 1, 0, none⟩) (by show _ ≤ w.heap.size + 1; omega) (.int .i64 0))
    have HKD : ((W.setCell ⟨w.heap.size, 0, none⟩ (.slice ao xs.length co)).setCell ⟨w.heap.size + 1, 0, none⟩ (.int .i64 0)).heap[D]? = some (.deferred (some [])) := ((KeepsOthers.setCell _ _ _).trans (KeepsOthers.setCell _ _ _)).same D _ hK rfl
    have HDD := Lib.hid hD
    clear hv hrow hall hb1 hb2 hB hm1 hK hD
    go_wp2_with fail
    refine ⟨by simp, .inl ⟨_, _, rfl, run_takeDeferred HKD, ?_⟩⟩
    have hLL := HLS.out.grown (El.sound _) (grownBy_putObj' _ D (.deferred none)) (fun r e => by injection e with e; subst e; exact .inl ⟨_, HKD, rfl⟩)
    obtain ⟨vv, hvv, hrw, hal⟩ := hLL
    refine ⟨_, results_boxes2 rfl _ _ ⟨w.heap.size, 0, none⟩ ⟨w.heap.size + 1, 0, none⟩ _ _ rfl rfl (by kernel_rfl) (by kernel_rfl) hvv.cell (Boxed.cell (Bk_putObj _ HB2.out HKD rfl)), ⟨vv, xs, by rw [HRE.out], ⟨row_lower hrw (by omega), fun x hx => El.G_lower (hal x hx) (by omega)⟩, by rw [HRE.out]⟩, HBB.out.trans (belowK_b (w := w) (Nat.le_refl _) _ D _ _ (by have := HDD.out; omega) HKD rfl rfl)⟩
  case stop =>
    rintro D c pre W hD hSp hx hK
    obtain ⟨rfl, good, x, er, rfl, hp, hxx, hb1, hb2, hB⟩ := hx
    have hp0 : ∀ x ∈ good, x.e = 0 := fun x hx => (hp x hx).1
    have hre : repliesOf (136 :: l) = ([], er) := by
      rcases hxx with ⟨hne, rfl⟩ | ⟨hx0, hbad, rfl⟩
      · rw [List.map_append, El.gh_ok hp0] at hSp
        have ht := told_err (x := x.gh) hne hSp
        have he : x.e = 2 := congrArg (fun y : Nat × List Nat × Int => y.2.2) ht.2.2
        have h := re_err hp ht.1 (by rw [ht.2.1]; decide)
        rw [h, ht.2.1, he]
      · have hall : ∀ y ∈ good ++ [x], y.e = 0 := by
          intro y hy
          rcases List.mem_append.1 hy with hy | hy
          · exact hp0 y hy
          · simp at hy
            subst hy
            exact hx0
        have hS2 : (((good ++ [x]).map El.fd).map okEl) <+: elsOf l := by rw [← El.gh_ok hall]; exact hSp
        have ht := told_some hS2
        refine re_bad (f := x.fd) ?_ hbad
        have hm : x.fd ∈ (good ++ [x]).map El.fd := List.mem_map.2 ⟨x, by simp, rfl⟩
        rw [ht.1] at hm
        exact List.mem_of_mem_take hm
    have HRE := Lib.hid hre
    have HB1 := Lib.hid hb1
    have HB2 := Lib.hid hb2
    have HBB := Lib.hid hB
    have HDD := Lib.hid hD
    have HKD := hK
    clear hSp hxx hp hp0 hb1 hb2 hB hD hK hre
    gi_wp2
    refine ⟨by simp, .inl ⟨_, _, rfl, run_takeDeferred HKD, ?_⟩⟩
    refine ⟨_, results_boxes2 rfl _ _ ⟨w.heap.size, 0, none⟩ ⟨w.heap.size + 1, 0, none⟩ _ _ rfl rfl (by kernel_rfl) (by kernel_rfl) (Boxed.cell (Bk_putObj _ HB1.out HKD rfl)) (Boxed.cell (Bk_putObj _ HB2.out HKD rfl)), ⟨_, [], by rw [HRE.out], ⟨World.ownsRow_nil _ _ _ _, by simp⟩, by rw [HRE.out]; rfl⟩, HBB.out.trans (belowK_b (w := w) (Nat.le_refl _) _ D _ _ (by have := HDD.out; omega) HKD rfl rfl)⟩
end Go.Proofs.Ytcibhchbgendaab.Qy
