/- The walk of the law SfieldRecords. -/
import Derived.Test.YtcibhchbgendaaaDoorSfWlkRest
import Derived.RegionTactic
import Derived.BigRegion
import Derived.Deep.DrawnRows
import Derived.Deep.RegionHeld3
namespace Go.Proofs.YtcibhchbgendaaaDoor.Sf
open Go Go.RowKit Go.Proofs.YtcibhchbgendaaaDoor.By
attribute [local go_sem ↓] Go.wp_at_zero Go.wp_at_succ

theorem s7_alloc {W : World} {g : Nat} {v0 v1 v2 v3 v4 v5 v6 : Value} (h : W.cell? ⟨g, 0, none⟩ = some v0 ∧ W.cell? ⟨g, 1, none⟩ = some v1 ∧ W.cell? ⟨g, 2, none⟩ = some v2 ∧ W.cell? ⟨g, 3, none⟩ = some v3 ∧ W.cell? ⟨g, 4, none⟩ = some v4 ∧ W.cell? ⟨g, 5, none⟩ = some v5 ∧ W.cell? ⟨g, 6, none⟩ = some v6) (o : Obj) :
    (W.alloc o).cell? ⟨g, 0, none⟩ = some v0 ∧ (W.alloc o).cell? ⟨g, 1, none⟩ = some v1 ∧ (W.alloc o).cell? ⟨g, 2, none⟩ = some v2 ∧ (W.alloc o).cell? ⟨g, 3, none⟩ = some v3 ∧ (W.alloc o).cell? ⟨g, 4, none⟩ = some v4 ∧ (W.alloc o).cell? ⟨g, 5, none⟩ = some v5 ∧ (W.alloc o).cell? ⟨g, 6, none⟩ = some v6 := by
  have k : ∀ {p : Addr} {v : Value}, W.cell? p = some v → (W.alloc o).cell? p = some v := fun {p v} e => (World.cell?_alloc_lt _ _ _ (World.block_lt_of_cell? W p e)).trans e
  exact ⟨k h.1, k h.2.1, k h.2.2.1, k h.2.2.2.1, k h.2.2.2.2.1, k h.2.2.2.2.2.1, k h.2.2.2.2.2.2⟩
theorem ARow_al {t : TypeId} {B : Nat} {W : World} {v : Value} {xs : List AEl} (h : ARow t B W v xs) (o : Obj) : ARow t B (W.alloc o) v xs := ARow_below h ((Below.refl _ _).alloc (Nat.le_refl _) o)
theorem G_al {B : Nat} {W : World} {x : AEl} (h : x.G B W) (o : Obj) : x.G B (W.alloc o) := ⟨h.1.below ((Below.refl W.heap.size W).alloc (Nat.le_refl _) o) (Nat.le_refl _), h.2.below ((Below.refl W.heap.size W).alloc (Nat.le_refl _) o) (Nat.le_refl _)⟩
theorem G_k {B : Nat} {W W' : World} {x : AEl} (hk : ∀ C u l, BOwn C W u l → BOwn C W' u l) (h : x.G B W) : x.G B W' := ⟨hk _ _ _ h.1, hk _ _ _ h.2⟩
theorem cells_up {W : World} {cs : List Value} {ad : Addr} (h : ∀ j u, cs[j]? = some u → W.cell? (ad.add j) = some u) (o : Obj) : ∀ j u, cs[j]? = some u → (W.alloc o).cell? (ad.add j) = some u := fun j u hu =>
  (World.cell?_alloc_lt _ _ _ (World.block_lt_of_cell? W _ (h j u hu))).trans (h j u hu)
theorem cells_lit1 (w : World) (o : Obj) (cs : List Value) (t : TypeId) : ∀ j u, cs[j]? = some u → ((w.alloc o).alloc (.cells cs.toArray t)).cell? ((⟨w.heap.size + 1, 0, none⟩ : Addr).add j) = some u := fun j u hu => by
  have h := cells_lit (w.alloc o) cs t j u hu
  rw [World.size_alloc] at h
  exact h
theorem cells_bk {W : World} {g : Nat} {t : TypeId} {cs : List Value} (h : Bk W g t cs.toArray) : ∀ j u, cs[j]? = some u → W.cell? ((⟨g, 0, none⟩ : Addr).add j) = some u := fun j u hu => by
  rw [addr_add0, Nat.zero_add]
  exact h.cellv (i := j) (by simpa using hu)
theorem ARow_apart {t t' : TypeId} {B B' : Nat} {W w1 : World} {v v' : Value} {pre : List AEl} {k : Nat} {xs : List Value} (h : ARow t B W v pre) (h' : W.ownsRow B' t' 7 v' k xs) (ht : t ≠ t') (hgrow : W.grownBy w1 v'.ownBlock) (hk : ∀ C u l, BOwn C W u l → BOwn C w1 u l) : ARow t B w1 v pre := by
  refine ⟨h.1.kept hgrow ?_, fun y hy => G_k hk (h.2 y hy)⟩
  rcases h.1.2 with ⟨h2, _⟩ | ⟨g, cap, cur, h1, _, h3, _⟩
  · exact .inl (by rw [h2]; rfl)
  · refine .inr fun e => ?_
    rcases h'.2 with ⟨h5, _⟩ | ⟨g', cap', cur', h6, _, h7, _⟩
    · rw [h1, h5] at e; cases e
    · rw [h1, h6] at e
      injection e with e
      subst e
      rw [h3] at h7
      injection h7 with h7
      injection h7 with _ h7
      exact ht h7
theorem ARow_cell7 {t : TypeId} {B : Nat} {W : World} {g n cap : Nat} {xs : List AEl} {i : Nat} {k c m : Int} {b : Bool} {q : Nat} {cs rc : List Nat} {cv rv : Value} (h : ARow t B W (.slice (some ⟨g, 0, none⟩) n cap) xs) (hx : xs[i]? = some ⟨⟨k, c, m, b, q, cs, rc⟩, cv, rv⟩) :
    W.cell? ⟨g, i * 7, none⟩ = some (.int .i64 k) ∧ W.cell? ⟨g, i * 7 + 1, none⟩ = some (.int .i64 c) ∧ W.cell? ⟨g, i * 7 + 2, none⟩ = some (.int .i64 m) ∧ W.cell? ⟨g, i * 7 + 3, none⟩ = some (.bool b) ∧ W.cell? ⟨g, i * 7 + 4, none⟩ = some (.int .u8 (q : Int)) ∧ W.cell? ⟨g, i * 7 + 5, none⟩ = some cv ∧ W.cell? ⟨g, i * 7 + 6, none⟩ = some rv :=
  ⟨ARow_cell h hx (j := 0) (by decide), ARow_cell h hx (j := 1) (by decide), ARow_cell h hx (j := 2) (by decide), ARow_cell h hx (j := 3) (by decide), ARow_cell h hx (j := 4) (by decide), ARow_cell h hx (j := 5) (by decide), ARow_cell h hx (j := 6) (by decide)⟩

/-- one more act at the end of acts of one's own -/
theorem ARow_append2 {t : TypeId} {B : Nat} {W w1 : World} {v v' : Value} {pre : List AEl} {x : AEl} (h : ARow t B W v pre) (hx : x.G B W) (ht : t ≠ 5) (hB : B ≤ W.heap.size)
    (hown : w1.ownsRow B t 7 v' (pre.length + 1) (pre.flatMap AEl.cells ++ x.cells)) (hgrow : W.grownBy w1 v.ownBlock) : ARow t B w1 v' (pre ++ [x]) ∧ Below B W w1 ∧ ∀ C u l, BOwn C W u l → BOwn C w1 u l := by
  have hs : (∀ C, Safe C W v.ownBlock) ∧ ∀ j, v.ownBlock = some j → B ≤ j := by
    rcases h.1.2 with ⟨h1, _⟩ | ⟨g, cap, cur, h1, hg, hh, _⟩
    · subst h1
      exact ⟨fun C r hr => (by cases hr), fun r hr => (by cases hr)⟩
    · subst h1
      refine ⟨fun C r hr => ?_, fun r hr => ?_⟩
      · injection hr with hr
        subst hr
        exact .inr (.inr ⟨_, _, _, hh, ht⟩)
      · injection hr with hr
        subst hr
        exact hg
  have hk : ∀ C u l, BOwn C W u l → BOwn C w1 u l := fun C u l hu => BOwn_safe hu hgrow (hs.1 C)
  refine ⟨⟨by rw [List.length_append, List.flatMap_append]; simpa using hown, fun y hy => ?_⟩, (Below.refl B W).grown hgrow hB hs.2, hk⟩
  rcases List.mem_append.1 hy with hy | hy
  · exact G_k hk (h.2 y hy)
  · simp at hy
    subst hy
    exact G_k hk hx

set_option maxHeartbeats 8000000 in
set_option maxRecDepth 100000 in
theorem sfieldRecords_walk (v : Value) (xs : List AEl) (w : World) (hv : ASrc w v xs) (hc : Cmds w) :
    Calls Tryd.prog 7 #[v] w fun e w' => e = .returned (.bool true) ∧ Below w.heap.size w w' := by
  obtain ⟨i0, hi, hz0, hz1, hz2⟩ := info_parts ract_info
  obtain ⟨i1, hj, hy0, hy1, hy2⟩ := info_parts act_info
  have HC := Lib.hid hc
  have HV := Lib.hid hv
  obtain ⟨a1, c1, rfl, hmax⟩ := ASrc_len hv
  obtain ⟨N, hN⟩ : ∃ N, N = xs.length := ⟨_, rfl⟩
  rw [← hN] at HV hmax ⊢
  have HN := Lib.hid hN
  have hN63 : N ≤ 9223372036854775807 := by unfold maxLen at hmax; omega
  clear hv hc hN hmax
  go_enter Tryd.func7, Tryd.ntmps7
  go_wp2_with fail
  refine (awake_any _ HC.out).mono ?_
  rintro e w1 ⟨rfl, h1⟩
  have HB1 := Lib.hid h1
  have hs1 := h1.size
  clear h1
  go_wp2_with fail
  go_loopw [3, 4, 18] (fun vm vw i wr => ∃ (k : Nat) (mp wp : List AEl), k ≤ N ∧ i = .int .i64 k ∧ ARow 50 w1.heap.size wr vm mp ∧ ARow 26 w1.heap.size wr vw wp ∧ mp.map AEl.a = ((xs.take (min k 6)).map fun y => fewOf y.a) ∧ wp.map AEl.a = ((xs.take (min k 6)).map fun y => fewOf y.a) ∧ Below w1.heap.size w1 wr) (fun _ _ i _ => N - (intOf i).toNat)
  case atStart => exact ⟨0, [], [], by omega, rfl, ⟨World.ownsRow_nil _ _ _ _, by simp⟩, ⟨World.ownsRow_nil _ _ _ _, by simp⟩, by simp, by simp, Below.refl _ _⟩
  case round =>
    obtain ⟨k, mp, wp, hk, rfl, hma, hwa, hmm, hwm, hbr⟩ := hrel
    obtain ⟨am, cm, rfl⟩ := row_form hma.1
    obtain ⟨aw, cw, rfl⟩ := row_form hwa.1
    have hml : mp.length ≤ 6 := by
      have h := congrArg List.length hmm
      rw [List.length_map, List.length_map, List.length_take] at h
      omega
    have hwl : wp.length ≤ 6 := by
      have h := congrArg List.length hwm
      rw [List.length_map, List.length_map, List.length_take] at h
      omega
    have HMA := Lib.hid hma
    have HWA := Lib.hid hwa
    have HMM := Lib.hid hmm
    have HWM := Lib.hid hwm
    have HBR := Lib.hid hbr
    have hsz := hbr.size
    clear hma hwa hmm hwm hbr
    by_cases hlt : k < N
    · obtain ⟨x, hx⟩ : ∃ x, xs[k]? = some x := ⟨xs[k]'(by have := HN.out; omega), List.getElem?_eq_getElem _⟩
      obtain ⟨ad, cap, hv, hl1, hl2, hcx⟩ : ∃ a cap, (Value.slice a1 N c1) = .slice (some a) N cap ∧ N ≤ cap ∧ cap ≤ maxLen ∧ ∀ i x, xs[i]? = some x → x.R w ∧ ∀ j u, x.cells[j]? = some u → w.cell? (a.add (i * 7 + j)) = some u := by
        rcases HV.out with ⟨h, h2⟩ | ⟨a, cap, h, h2, h3, h4⟩
        · have := HN.out; rw [h2] at this; simp at this; omega
        · exact ⟨a, cap, by rw [← HN.out] at h; exact h, by have := HN.out; omega, h3, h4⟩
      injection hv with hv1 _ hv3
      subst hv1 hv3
      obtain ⟨hxR, hxc⟩ := hcx k x hx
      have HXC := Lib.hid hxc
      have hcw : ∀ j u, x.cells[j]? = some u → wr.cell? (ad.add (k * 7 + j)) = some u := fun j u hu => by
        have h := HXC.out j u hu
        exact (cell_of_block (show wr.heap[(ad.add (k * 7 + j)).block]? = w.heap[_]? from ((HB1.out.trans (HBR.out.mono hs1)).block _ (cell_lt h)))).trans h
      obtain ⟨⟨ak, acm, am', ab, aq, acs, arc⟩, xcv, xrv⟩ := x
      obtain ⟨hq, hx1, hx2⟩ := hxR
      change aq < 256 at hq
      change BRow w xcv acs at hx1
      change BRow w xrv arc at hx2
      obtain ⟨ca, cac, rfl⟩ := BRow_form hx1
      obtain ⟨ra, rac, rfl⟩ := BRow_form hx2
      have HX1 := Lib.hid hx1
      have HX2 := Lib.hid hx2
      have HX := Lib.hid hx
      have HQ := Lib.hid hq
      have q0 : wr.cell? (ad.add (k * 7)) = some (.int .i64 ak) := hcw 0 _ rfl
      have q1 : wr.cell? ⟨(ad.add (k * 7)).block, (ad.add (k * 7)).off + 1, none⟩ = some (.int .i64 acm) := by have h := hcw 1 _ rfl; rw [← Go.Deep.add_add] at h; exact h
      have q2 : wr.cell? ⟨(ad.add (k * 7)).block, (ad.add (k * 7)).off + 2, none⟩ = some (.int .i64 am') := by have h := hcw 2 _ rfl; rw [← Go.Deep.add_add] at h; exact h
      have q3 : wr.cell? ⟨(ad.add (k * 7)).block, (ad.add (k * 7)).off + 3, none⟩ = some (.bool ab) := by have h := hcw 3 _ rfl; rw [← Go.Deep.add_add] at h; exact h
      have q4 : wr.cell? ⟨(ad.add (k * 7)).block, (ad.add (k * 7)).off + 4, none⟩ = some (.int .u8 (aq : Int)) := by have h := hcw 4 _ rfl; rw [← Go.Deep.add_add] at h; exact h
      have q5 : wr.cell? ⟨(ad.add (k * 7)).block, (ad.add (k * 7)).off + 5, none⟩ = some (.slice ca acs.length cac) := by have h := hcw 5 _ rfl; rw [← Go.Deep.add_add] at h; exact h
      have q6 : wr.cell? ⟨(ad.add (k * 7)).block, (ad.add (k * 7)).off + 6, none⟩ = some (.slice ra arc.length rac) := by have h := hcw 6 _ rfl; rw [← Go.Deep.add_add] at h; exact h
      clear hcw
      by_cases h4 : k < 6
      · have HW0 := Lib.hid ((Below.refl wr.heap.size wr).alloc (Nat.le_refl _) (.cells #[.int .i64 ak, .int .i64 acm, .int .i64 am', .bool ab, .int .u8 (aq : Int), .slice ca acs.length cac, .slice ra arc.length rac] 26))
        have HBw := Lib.hid (HB1.out.trans ((HBR.out.trans (HW0.out.mono hsz)).mono hs1))
        go_wp2_with fail
        clear q0 q1 q2 q3 q4 q5 q6
        refine (few_any ⟨ak, acm, am', ab, aq, acs, arc⟩ _ _ _ (HX1.out.below HBw.out (Nat.le_refl _)) (HX2.out.below HBw.out (Nat.le_refl _))).mono ?_
        rintro e w2 ⟨⟨cv, rv, rfl, h1, h2⟩, hb2⟩
        obtain ⟨fs, hfs⟩ : ∃ fs, acs.take 20 = fs := ⟨_, rfl⟩
        obtain ⟨fr, hfr⟩ : ∃ fr, arc.take 300 = fr := ⟨_, rfl⟩
        simp only [fewOf, aval, hfs, hfr] at h1 h2 ⊢
        obtain ⟨ca2, cc2, rfl⟩ := BOwn_form h1
        obtain ⟨ra2, rc2, rfl⟩ := BOwn_form h2
        have HFS := Lib.hid hfs
        have HFR := Lib.hid hfr
        have hsz2 := hb2.size
        simp only [World.size_alloc] at hsz2
        have HB02 := Lib.hid (HW0.out.trans (hb2.mono (by simp)))
        have HB2 := Lib.hid (HBR.out.trans (HB02.out.mono hsz))
        have HMA2 := Lib.hid (ARow_below HMA.out HB02.out)
        have HWA2 := Lib.hid (ARow_below HWA.out HB02.out)
        have H1 := Lib.hid h1
        have H2 := Lib.hid h2
        have hs12 : w1.heap.size ≤ w2.heap.size := by omega
        have HK2 := Lib.hid ((Bk.new wr 26 #[.int .i64 ak, .int .i64 acm, .int .i64 am', .bool ab, .int .u8 (aq : Int), .slice ca acs.length cac, .slice ra arc.length rac]).below hb2 (by simp))
        obtain ⟨d0, d1, d2, d3, d4, d5, d6⟩ := cells7 HK2.out
        obtain ⟨f0, f1, f2, f3, f4, f5, f6⟩ := frozen7 HK2.out
        have hl2 : wr.heap.size < w2.heap.size := by omega
        clear h1 h2 hb2 hfs hfr
        go_wp2_with fail
        clear d0 d1 d2 d3 d4 d5 d6 f0 f1 f2 f3 f4 f5 f6
        have HBX := Lib.hid (Bk_fill7 HK2.out (.int .i64 ak) (.int .i64 acm) (.int .i64 am') (.bool ab) (.int .u8 (aq : Int)) (.slice ca2 fs.length cc2) (.slice ra2 fr.length rc2))
        have HB0 := Lib.hid (below_fill7 HB02.out (g := wr.heap.size) (Nat.le_refl _) (.int .i64 ak) (.int .i64 acm) (.int .i64 am') (.bool ab) (.int .u8 (aq : Int)) (.slice ca2 fs.length cc2) (.slice ra2 fr.length rc2))
        have HY1 := Lib.hid (BOwn_fill7 (show BOwn (wr.heap.size + 1) w2 _ _ by have h := H1.out; simpa using h) (g := wr.heap.size) (by omega) (.int .i64 ak) (.int .i64 acm) (.int .i64 am') (.bool ab) (.int .u8 (aq : Int)) (.slice ca2 fs.length cc2) (.slice ra2 fr.length rc2))
        have HY2 := Lib.hid (BOwn_fill7 (show BOwn (wr.heap.size + 1) w2 _ _ by have h := H2.out; simpa using h) (g := wr.heap.size) (by omega) (.int .i64 ak) (.int .i64 acm) (.int .i64 am') (.bool ab) (.int .u8 (aq : Int)) (.slice ca2 fs.length cc2) (.slice ra2 fr.length rc2))
        have hW0s : (((((((w2.setCell ⟨wr.heap.size, 0, none⟩ (.int .i64 ak)).setCell ⟨wr.heap.size, 1, none⟩ (.int .i64 acm)).setCell ⟨wr.heap.size, 2, none⟩ (.int .i64 am')).setCell ⟨wr.heap.size, 3, none⟩ (.bool ab)).setCell ⟨wr.heap.size, 4, none⟩ (.int .u8 (aq : Int))).setCell ⟨wr.heap.size, 5, none⟩ (.slice ca2 fs.length cc2)).setCell ⟨wr.heap.size, 6, none⟩ (.slice ra2 fr.length rc2)).heap.size = w2.heap.size := by simp [World.setCell]
        obtain ⟨W0, hW0⟩ : ∃ W0, W0 = (((((((w2.setCell ⟨wr.heap.size, 0, none⟩ (.int .i64 ak)).setCell ⟨wr.heap.size, 1, none⟩ (.int .i64 acm)).setCell ⟨wr.heap.size, 2, none⟩ (.int .i64 am')).setCell ⟨wr.heap.size, 3, none⟩ (.bool ab)).setCell ⟨wr.heap.size, 4, none⟩ (.int .u8 (aq : Int))).setCell ⟨wr.heap.size, 5, none⟩ (.slice ca2 fs.length cc2)).setCell ⟨wr.heap.size, 6, none⟩ (.slice ra2 fr.length rc2)) := ⟨_, rfl⟩
        rw [← hW0] at HBX HB0 HY1 HY2 hW0s ⊢
        clear hW0
        have hg0 : wr.heap.size < W0.heap.size := by omega
        have hw0 : w1.heap.size ≤ W0.heap.size := by omega
        clear hW0s
        have HMI := Lib.hid (ARow_below HMA.out HB0.out)
        have HWI := Lib.hid (ARow_below HWA.out HB0.out)
        have HML := Lib.hid (show ∀ j, (Value.slice am mp.length cm).ownBlock = some j → j < wr.heap.size from fun j h => (HMA.out.1.lt j h).2)
        have HWL := Lib.hid (show ∀ j, (Value.slice aw wp.length cw).ownBlock = some j → j < wr.heap.size from fun j h => (HWA.out.1.lt j h).2)
        have HBL0 := Lib.hid (HBR.out.trans (HB0.out.mono hsz))
        have HBD := Lib.hid ((Below.refl W0.heap.size W0).drew)
        have HFF := Lib.hid (show fs.take 20 = fs ∧ fr.take 300 = fr by
          have h1 : fs.length ≤ 20 := by rw [← HFS.out, List.length_take]; omega
          have h2 : fr.length ≤ 300 := by rw [← HFR.out, List.length_take]; omega
          exact ⟨List.take_of_length_le h1, List.take_of_length_le h2⟩)
        have HYG := Lib.hid (show (⟨⟨ak, acm, am', ab, aq, fs, fr⟩, .slice ca2 fs.length cc2, .slice ra2 fr.length rc2⟩ : AEl).G (wr.heap.size + 1) W0 from ⟨HY1.out, HY2.out⟩)
        have hS0 := cells7 (show Bk W0.drew _ _ _ from HBX.out)
        have TOK : True := True.intro
        go_region_held3 (fun W' => W'.cell? ⟨wr.heap.size, 0, none⟩ = some (.int .i64 ak) ∧ W'.cell? ⟨wr.heap.size, 1, none⟩ = some (.int .i64 acm) ∧ W'.cell? ⟨wr.heap.size, 2, none⟩ = some (.int .i64 am') ∧ W'.cell? ⟨wr.heap.size, 3, none⟩ = some (.bool ab) ∧ W'.cell? ⟨wr.heap.size, 4, none⟩ = some (.int .u8 (aq : Int)) ∧ W'.cell? ⟨wr.heap.size, 5, none⟩ = some (.slice ca2 fs.length cc2) ∧ W'.cell? ⟨wr.heap.size, 6, none⟩ = some (.slice ra2 fr.length rc2))
          (first | assumption | exact s7_alloc (by assumption) _)
          (first
          | (go_at_call 10; (refine (few_any ⟨ak, acm, am', ab, aq, fs, fr⟩ (.slice ca2 fs.length cc2) (.slice ra2 fr.length rc2) _ (HY1.out.row.below (by first | exact HBD.out | exact HBD.out.alloc (Nat.le_refl _) _) (Nat.le_refl _)) (HY2.out.row.below (by first | exact HBD.out | exact HBD.out.alloc (Nat.le_refl _) _) (Nat.le_refl _))).mono ?_; rintro e w6 ⟨⟨v6, u6, rfl, h1, h2⟩, hb6⟩; simp only [fewOf, aval, HFF.out.1, HFF.out.2] at h1 h2 ⊢; obtain ⟨p6, q6, rfl⟩ := BOwn_form h1; obtain ⟨r6, s6, rfl⟩ := BOwn_form h2; have HB6 := Lib.hid (show Below W0.heap.size W0 w6 by first | exact HBD.out.trans hb6 | exact (HBD.out.alloc (Nat.le_refl _) _).trans (hb6.mono (by simp))); have hs6 : W0.heap.size ≤ w6.heap.size := HB6.out.size; have HXG6 := Lib.hid (show (⟨⟨ak, acm, am', ab, aq, fs, fr⟩, .slice p6 fs.length q6, .slice r6 fr.length s6⟩ : AEl).G w1.heap.size w6 from ⟨h1.lower (by simp <;> omega), h2.lower (by simp <;> omega)⟩); have HMI6 := Lib.hid (ARow_below HMI.out HB6.out); have HWI6 := Lib.hid (ARow_below HWI.out HB6.out); have HBX6 := Lib.hid (HBX.out.below HB6.out hg0); have HYG6 := Lib.hid (show (⟨⟨ak, acm, am', ab, aq, fs, fr⟩, .slice ca2 fs.length cc2, .slice ra2 fr.length rc2⟩ : AEl).G w1.heap.size w6 from ⟨(HYG.out.1.lower (by omega)).below HB6.out (Nat.le_refl _), (HYG.out.2.lower (by omega)).below HB6.out (Nat.le_refl _)⟩); have HBL6 := Lib.hid (HBL0.out.trans (HB6.out.mono hw0)); have hS6 := cells7 HBX6.out; (try have HL6 := Lib.hid (show Bk w6 W0.heap.size 26 #[.int .i64 ak, .int .i64 acm, .int .i64 am', .bool ab, .int .u8 (aq : Int), .slice ca2 fs.length cc2, .slice ra2 fr.length rc2] from (Bk.new W0.drew 26 #[.int .i64 ak, .int .i64 acm, .int .i64 am', .bool ab, .int .u8 (aq : Int), .slice ca2 fs.length cc2, .slice ra2 fr.length rc2]).below hb6 (by simp))); clear h1 h2 hb6))
          | ((clear TOK; refine step_append_own rfl _ _ 56 rfl w1.heap.size 50 i1 (.agg #[.int .i64 0, .int .i64 0, .int .i64 0, .bool false, .int .u8 0, .slice none 0 0, .slice none 0 0]) 7 80 Tryd.underlying56 hj hy0 hy1 hy2 rfl (by decide) (.slice am mp.length cm) mp.length (mp.flatMap AEl.cells) rfl (by first | exact HMI6.out.1.alloc _ | exact (HMI6.out.1.alloc _).alloc _) _ 1 1 [.int .i64 ak, .int .i64 acm, .int .i64 am', .bool ab, .int .u8 (aq : Int), .slice p6 fs.length q6, .slice r6 fr.length s6] rfl rfl (by first | exact cells_lit w6 [.int .i64 ak, .int .i64 acm, .int .i64 am', .bool ab, .int .u8 (aq : Int), .slice p6 fs.length q6, .slice r6 fr.length s6] 50 | exact cells_up (cells_lit w6 [.int .i64 ak, .int .i64 acm, .int .i64 am', .bool ab, .int .u8 (aq : Int), .slice p6 fs.length q6, .slice r6 fr.length s6] 50) _ | exact cells_lit1 w6 _ [.int .i64 ak, .int .i64 acm, .int .i64 am', .bool ab, .int .u8 (aq : Int), .slice p6 fs.length q6, .slice r6 fr.length s6] 50) (by intro u hu; simp at hu; rcases hu with rfl | rfl | rfl | rfl | rfl | rfl | rfl <;> rfl) (by unfold maxLen; omega) (by omega) (by simp <;> omega) ?_; intro v7 w7 hown7 hgrow7 _; obtain ⟨har7, hb7, hk7⟩ := ARow_append2 (x := (⟨⟨ak, acm, am', ab, aq, fs, fr⟩, .slice p6 fs.length q6, .slice r6 fr.length s6⟩ : AEl)) (by first | exact ARow_al HMI6.out _ | exact ARow_al (ARow_al HMI6.out _) _) (by first | exact G_al HXG6.out _ | exact G_al (G_al HXG6.out _) _) (by decide) (by simp <;> omega) hown7 hgrow7; obtain ⟨g7, c7, rfl⟩ := ownsRow_succ hown7; have HMI7 := Lib.hid har7; have HWI7 := Lib.hid (ARow_apart (show ARow 26 w1.heap.size _ (.slice aw wp.length cw) wp by first | exact ARow_al HWI6.out _ | exact ARow_al (ARow_al HWI6.out _) _) (show World.ownsRow _ w1.heap.size 50 7 (.slice am mp.length cm) mp.length (mp.flatMap AEl.cells) by first | exact HMI6.out.1.alloc _ | exact (HMI6.out.1.alloc _).alloc _) (by decide) hgrow7 hk7); have HBX7 := Lib.hid (Bk.grown (show Bk _ wr.heap.size 26 #[.int .i64 ak, .int .i64 acm, .int .i64 am', .bool ab, .int .u8 (aq : Int), .slice ca2 fs.length cc2, .slice ra2 fr.length rc2] by first | exact HBX6.out.alloc _ | exact (HBX6.out.alloc _).alloc _) hgrow7 (fun e => by have := HML.out _ e.symm; omega)); have HYG7 := Lib.hid (show (⟨⟨ak, acm, am', ab, aq, fs, fr⟩, .slice ca2 fs.length cc2, .slice ra2 fr.length rc2⟩ : AEl).G w1.heap.size w7 from G_k hk7 (by first | exact G_al HYG6.out _ | exact G_al (G_al HYG6.out _) _)); have HBL7 := Lib.hid (show Below w1.heap.size w1 w7 by first | exact (HBL6.out.alloc HBL6.out.size _).trans hb7 | exact ((HBL6.out.alloc HBL6.out.size _).alloc (by simp <;> omega) _).trans hb7); have hs7 : w1.heap.size ≤ w7.heap.size := HBL7.out.size; have hS7 := cells7 HBX7.out; (first | have HL7 := Lib.hid (Bk.grown (HL6.out.alloc _) hgrow7 (fun e => by have := HML.out _ e.symm; (try simp at this); omega)) | have HL7 := Lib.hid (Bk.grown (Bk.new (w6.alloc _) 26 #[.int .i64 ak, .int .i64 acm, .int .i64 am', .bool ab, .int .u8 (aq : Int), .slice ca2 fs.length cc2, .slice ra2 fr.length rc2]) hgrow7 (fun e => by have := HML.out _ e.symm; (try simp at this); omega)) | have HL7 := Lib.hid (Bk.grown ((Bk.new w6 26 #[.int .i64 ak, .int .i64 acm, .int .i64 am', .bool ab, .int .u8 (aq : Int), .slice ca2 fs.length cc2, .slice ra2 fr.length rc2]).alloc _) hgrow7 (fun e => by have := HML.out _ e.symm; (try simp at this); omega)) | skip); clear har7 hb7 hk7 hown7 hgrow7))
          | ((refine step_append_own rfl _ _ 22 rfl w1.heap.size 26 i0 (.agg #[.int .i64 0, .int .i64 0, .int .i64 0, .bool false, .int .u8 0, .slice none 0 0, .slice none 0 0]) 7 80 Tryd.underlying22 hi hz0 hz1 hz2 rfl (by decide) (.slice aw wp.length cw) wp.length (wp.flatMap AEl.cells) rfl (by first | exact HWI7.out.1 | exact HWI7.out.1.alloc _) _ 1 1 [.int .i64 ak, .int .i64 acm, .int .i64 am', .bool ab, .int .u8 (aq : Int), .slice ca2 fs.length cc2, .slice ra2 fr.length rc2] rfl rfl (by first | exact cells_lit w7 [.int .i64 ak, .int .i64 acm, .int .i64 am', .bool ab, .int .u8 (aq : Int), .slice ca2 fs.length cc2, .slice ra2 fr.length rc2] 26 | exact cells_bk HL7.out | (have h := HL7.out; simp only [World.size_alloc] at h; exact cells_bk h)) (by intro u hu; simp at hu; rcases hu with rfl | rfl | rfl | rfl | rfl | rfl | rfl <;> rfl) (by unfold maxLen; omega) (by omega) (by first | exact hs7 | (simp; omega)) ?_; intro v8 w8 hown8 hgrow8 _; obtain ⟨har8, hb8, hk8⟩ := ARow_append2 (x := (⟨⟨ak, acm, am', ab, aq, fs, fr⟩, .slice ca2 fs.length cc2, .slice ra2 fr.length rc2⟩ : AEl)) (by first | exact HWI7.out | exact ARow_al HWI7.out _) (by first | exact HYG7.out | exact G_al HYG7.out _) (by decide) (by first | exact hs7 | (simp; omega)) hown8 hgrow8; obtain ⟨g8, c8, rfl⟩ := ownsRow_succ hown8; have HWI8 := Lib.hid har8; have HMI8 := Lib.hid (ARow_apart (show ARow 50 w1.heap.size _ _ (mp ++ [(⟨⟨ak, acm, am', ab, aq, fs, fr⟩, .slice p6 fs.length q6, .slice r6 fr.length s6⟩ : AEl)]) by first | exact HMI7.out | exact ARow_al HMI7.out _) (show World.ownsRow _ w1.heap.size 26 7 (.slice aw wp.length cw) wp.length (wp.flatMap AEl.cells) by first | exact HWI7.out.1 | exact HWI7.out.1.alloc _) (by decide) hgrow8 hk8); have HBX8 := Lib.hid (Bk.grown (show Bk _ wr.heap.size 26 #[.int .i64 ak, .int .i64 acm, .int .i64 am', .bool ab, .int .u8 (aq : Int), .slice ca2 fs.length cc2, .slice ra2 fr.length rc2] by first | exact HBX7.out | exact HBX7.out.alloc _) hgrow8 (fun e => by have := HWL.out _ e.symm; omega)); have HBL8 := Lib.hid (show Below w1.heap.size w1 w8 by first | exact HBL7.out.trans hb8 | exact (HBL7.out.alloc HBL7.out.size _).trans hb8); have hS8 := cells7 HBX8.out; clear har8 hb8 hk8 hown8 hgrow8))
          | fail)
        all_goals
          go_wp2_with fail
          refine ⟨⟨k + 1, mp ++ [(⟨⟨ak, acm, am', ab, aq, fs, fr⟩, .slice p6 fs.length q6, .slice r6 fr.length s6⟩ : AEl)], wp ++ [(⟨⟨ak, acm, am', ab, aq, fs, fr⟩, .slice ca2 fs.length cc2, .slice ra2 fr.length rc2⟩ : AEl)], by omega, by go_num, HMI8.out, HWI8.out, ?_, ?_, HBL8.out⟩, by simp [intOf]; omega⟩
          · rw [few_step HX.out h4, ← HMM.out, List.map_append]
            have h5 := HFS.out
            have h6 := HFR.out
            simp [fewOf, h5, h6]
          · rw [few_step HX.out h4, ← HWM.out, List.map_append]
            have h5 := HFS.out
            have h6 := HFR.out
            simp [fewOf, h5, h6]
      · go_wp2_with fail
        clear q0 q1 q2 q3 q4 q5 q6
        have HW0 := Lib.hid ((Below.refl wr.heap.size wr).alloc (Nat.le_refl _) (.cells #[.int .i64 ak, .int .i64 acm, .int .i64 am', .bool ab, .int .u8 (aq : Int), .slice ca acs.length cac, .slice ra arc.length rac] 26))
        refine ⟨⟨k + 1, mp, wp, by omega, by go_num, ARow_below HMA.out HW0.out, ARow_below HWA.out HW0.out, ?_, ?_, HBR.out.trans (HW0.out.mono hsz)⟩, by simp [intOf]; omega⟩
        · rw [HMM.out, show min (k + 1) 6 = min k 6 by omega]
        · rw [HWM.out, show min (k + 1) 6 = min k 6 by omega]
    · obtain rfl : k = N := by omega
      have hsmall : ∀ (ps : List AEl), (ps.map AEl.a = ((xs.take (min k 6)).map fun y => fewOf y.a)) → ∀ x ∈ ps, Small x.a := by
        intro ps hps x hx
        have h : x.a ∈ ps.map AEl.a := List.mem_map.2 ⟨x, hx, rfl⟩
        rw [hps] at h
        obtain ⟨y, hy, e⟩ := List.mem_map.1 h
        rw [← e]
        exact few_small _ (ASrc_req HV.out HN.out y (List.mem_of_mem_take hy))
      have HSM := Lib.hid (hsmall mp HMM.out)
      have HSW := Lib.hid (hsmall wp HWM.out)
      have HSA := Lib.hid (show ∀ a ∈ wp.map AEl.a, Small a from fun a ha => by
        obtain ⟨x, hx, rfl⟩ := List.mem_map.1 ha
        exact HSW.out x hx)
      have HEQ := Lib.hid (HMM.out.trans HWM.out.symm)
      have HBw := Lib.hid (HB1.out.trans (HBR.out.mono hs1))
      clear hsmall hlt hk
      go_wp2_with fail
      refine (mrec_any _ _ mp _ HMA.out HSM.out hml (HC.out.below HBw.out HC.out.lt)).mono ?_
      rintro e w2 ⟨hend, h2⟩
      obtain ⟨⟨rl, er⟩, hr⟩ : ∃ r, recOf (wp.map AEl.a) = r := ⟨_, rfl⟩
      have hrl : rl.length ≤ 304 * 6 := by
        have h := rec_len (wp.map AEl.a) HSA.out
        rw [hr, List.length_map] at h
        exact Nat.le_trans h (Nat.mul_le_mul_left _ hwl)
      rw [HEQ.out, hr] at hend
      have HR := Lib.hid hr
      have HB2 := Lib.hid (HBw.out.trans (h2.mono HBw.out.size))
      have HWA2 := Lib.hid (ARow_below HWA.out h2)
      have hs2 := h2.size
      clear h2 hr
      rcases hend with ⟨h0, p, c, rfl, ho⟩ | ⟨h0, rfl⟩
      · change er = 0 at h0
        subst h0
        obtain ⟨gf, cf, hf, hgf1, hgf2⟩ := own_some ho (by intro e; injection e with _ e _; simp at e)
        injection hf with hf1 _ hf3
        subst hf1 hf3
        obtain ⟨nr, hnr⟩ : ∃ nr, nr = rl.length := ⟨_, rfl⟩
        have HNR := Lib.hid hnr
        change BOwn wr.heap.size w2 (.slice (some ⟨gf, 0, none⟩) (rl.length + 1) c) (243 :: rl) at ho
        simp only [← hnr] at ho hrl ⊢
        have HF := Lib.hid ho
        clear ho hnr
        go_wp2_with fail
        refine (rrec_any _ _ wp _ HWA2.out HSW.out hwl).mono ?_
        rintro e w3 ⟨hend, h3⟩
        rw [HR.out] at hend
        obtain ⟨_, p2, c2, rfl, ho2⟩ := Or.resolve_right hend (fun h => h.1 rfl)
        have HF3 := Lib.hid (HF.out.below h3 (Nat.le_refl _))
        have HB3 := Lib.hid (HB2.out.trans (h3.mono HB2.out.size))
        have HWA3 := Lib.hid (ARow_below HWA2.out h3)
        have hs3 := h3.size
        change BOwn w2.heap.size w3 (.slice p2 (rl.length + 1) c2) (243 :: rl) at ho2
        simp only [← HNR.out] at ho2 ⊢
        have HO2 := Lib.hid ho2
        clear ho2 h3
        go_wp2_with fail
        refine (same_any _ _ (243 :: rl) (243 :: rl) _ HF3.out.row HO2.out.row).mono ?_
        rintro e w4 ⟨rfl, rfl⟩
        rw [decide_eq_true rfl]
        have hnl0 := (BOwn_win HF3.out).2
        obtain ⟨A4, hA1, hA2, hsl⟩ := slice_rest gf 0 c 1 (nr + 1) (by omega)
        obtain ⟨o', rfl, hwin⟩ := Win.rest (BOwn_win HF3.out).1 1 (by rw [← hnl0]; omega) hA1 hA2
        have hsl1 : ∀ w : World, (Instr.slice 23 (.slice (some ⟨gf, 0, none⟩) (nr + 1) c) (some (.int .i64 1)) none none).run Tryd.prog w = .ok (.slice (some ⟨gf, o', none⟩) nr (c - 1)) w := hsl
        have hwin2 : Win w4 gf o' (c - 1) rl := hwin
        have HWN := Lib.hid hwin2
        clear hA1 hA2 hsl hwin hwin2 hnl0
        have hgf4 : gf < w4.heap.size := by omega
        go_wp2_with fail
        have hma := macts_any gf o' (c - 1) rl w4 HWN.out (by rw [← HNR.out]; omega) hgf4 (HC.out.below HB3.out HC.out.lt)
        have hra := rec_acts (wp.map AEl.a) HSA.out (by rw [HR.out])
        rw [HR.out] at hra
        change actsOf (fieldsOf rl) (endOf rl) = _ at hra
        rw [hra, ← HNR.out] at hma
        have HMAC := Lib.hid hma
        clear hma hra
        refine HMAC.out.mono ?_
        rintro e w5 ⟨⟨v5, gs, rfl, hga, hgm⟩, h5⟩
        change gs.map AEl.a = (wp.map AEl.a).map plainOf at hgm
        obtain ⟨ag, cg, rfl⟩ := row_form hga.1
        have hgl : gs.length = wp.length := by have h := congrArg List.length hgm; simpa using h
        rw [hgl] at hga ⊢
        have HGA := Lib.hid hga
        have HGM := Lib.hid hgm
        have HGL := Lib.hid hgl
        have HB5 := Lib.hid (HB3.out.trans (h5.mono HB3.out.size))
        have HWA5 := Lib.hid (ARow_below HWA3.out h5)
        have hs5 := h5.size
        clear hga hgm hgl h5 hsl1
        obtain ⟨nw, hnw⟩ : ∃ nw, nw = wp.length := ⟨_, rfl⟩
        have HNW := Lib.hid hnw
        rw [← hnw] at HGA HWA5 hwl ⊢
        clear hnw
        go_wp2_with fail
        go_loopw [75] (fun i wr => ∃ j : Nat, j ≤ nw ∧ i = .int .i64 j ∧ Below w5.heap.size w5 wr) (fun i _ => nw - (intOf i).toNat)
        case atStart => exact ⟨0, Nat.zero_le _, rfl, Below.refl _ _⟩
        case round =>
          obtain ⟨j, hj, rfl, hbr⟩ := hrel
          have HBr := Lib.hid hbr
          have hsr := hbr.size
          clear hbr
          by_cases hlt : j < nw
          · obtain ⟨x, hx⟩ : ∃ x, gs[j]? = some x := ⟨gs[j]'(by have h1 := HGL.out; have h2 := HNW.out; omega), List.getElem?_eq_getElem _⟩
            obtain ⟨y, hy⟩ : ∃ y, wp[j]? = some y := ⟨wp[j]'(by have h2 := HNW.out; omega), List.getElem?_eq_getElem _⟩
            have hxy : x.a = plainOf y.a := by
              have h := congrArg (fun l : List A => l[j]?) HGM.out
              simpa [hx, hy] using h
            have HGr := Lib.hid (ARow_below HGA.out HBr.out)
            have HWr := Lib.hid (ARow_below HWA5.out HBr.out)
            obtain ⟨gg, rfl⟩ : ∃ g, ag = some ⟨g, 0, none⟩ := by
              rcases HGr.out.1.2 with ⟨h, h2⟩ | ⟨g, cap, cur, h, _⟩
              · have h1 := HGL.out; have h3 := HNW.out; omega
              · injection h with h; exact ⟨g, h⟩
            obtain ⟨gw, rfl⟩ : ∃ g, aw = some ⟨g, 0, none⟩ := by
              rcases HWr.out.1.2 with ⟨h, h2⟩ | ⟨g, cap, cur, h, _⟩
              · have h3 := HNW.out; omega
              · injection h with h; exact ⟨g, h⟩
            have hxG := HGr.out.2 x (List.mem_of_getElem? hx)
            have hyG := HWr.out.2 y (List.mem_of_getElem? hy)
            obtain ⟨⟨xk, xc, xm, xb, xq, xs', xr⟩, xv, xu⟩ := x
            obtain ⟨⟨yk, yc, ym, yb, yq, ys, yr⟩, yv, yu⟩ := y
            obtain ⟨xa1, xc1, rfl⟩ := BOwn_form (show BOwn _ _ xv xs' from hxG.1)
            obtain ⟨xa2, xc2, rfl⟩ := BOwn_form (show BOwn _ _ xu xr from hxG.2)
            obtain ⟨ya1, yc1, rfl⟩ := BOwn_form (show BOwn _ _ yv ys from hyG.1)
            obtain ⟨ya2, yc2, rfl⟩ := BOwn_form (show BOwn _ _ yu yr from hyG.2)
            have HXG := Lib.hid hxG
            have HYG := Lib.hid hyG
            have HXY := Lib.hid (show (⟨xk, xc, xm, xb, xq, xs', xr⟩ : A) = plainOf ⟨yk, yc, ym, yb, yq, ys, yr⟩ from hxy)
            have HCX := Lib.hid (fun (W : World) (h : Below wr.heap.size wr W) => ARow_cell7 (ARow_below HGr.out h) hx)
            have HCY := Lib.hid (fun (W : World) (h : Below wr.heap.size wr W) => ARow_cell7 (ARow_below HWr.out h) hy)
            have hS0 := And.intro (HCX.out _ (Below.refl _ _).drew) (HCY.out _ (Below.refl _ _).drew)
            clear hx hy hxG hyG hxy
            go_wp2_with fail
            go_region_held3 (fun W' => (W'.cell? ⟨gg, j * 7, none⟩ = some (.int .i64 xk) ∧ W'.cell? ⟨gg, j * 7 + 1, none⟩ = some (.int .i64 xc) ∧ W'.cell? ⟨gg, j * 7 + 2, none⟩ = some (.int .i64 xm) ∧ W'.cell? ⟨gg, j * 7 + 3, none⟩ = some (.bool xb) ∧ W'.cell? ⟨gg, j * 7 + 4, none⟩ = some (.int .u8 (xq : Int)) ∧ W'.cell? ⟨gg, j * 7 + 5, none⟩ = some (.slice xa1 xs'.length xc1) ∧ W'.cell? ⟨gg, j * 7 + 6, none⟩ = some (.slice xa2 xr.length xc2)) ∧ (W'.cell? ⟨gw, j * 7, none⟩ = some (.int .i64 yk) ∧ W'.cell? ⟨gw, j * 7 + 1, none⟩ = some (.int .i64 yc) ∧ W'.cell? ⟨gw, j * 7 + 2, none⟩ = some (.int .i64 ym) ∧ W'.cell? ⟨gw, j * 7 + 3, none⟩ = some (.bool yb) ∧ W'.cell? ⟨gw, j * 7 + 4, none⟩ = some (.int .u8 (yq : Int)) ∧ W'.cell? ⟨gw, j * 7 + 5, none⟩ = some (.slice ya1 ys.length yc1) ∧ W'.cell? ⟨gw, j * 7 + 6, none⟩ = some (.slice ya2 yr.length yc2)))
              (first | assumption | fail)
              (first
              | (go_at_call 31; (refine (plain_any ⟨yk, yc, ym, yb, yq, ys, yr⟩ (.slice ya1 ys.length yc1) (.slice ya2 yr.length yc2) _ (show BRow wr.drew _ _ from HYG.out.1.row) (show BRow wr.drew _ _ from HYG.out.2.row)).mono ?_; rintro e w6 ⟨⟨pv, pu, rfl, hp1, hp2⟩, hb6⟩; rw [← HXY.out] at hp1 hp2 ⊢; have HP1 := Lib.hid hp1; have HP2 := Lib.hid hp2; have HB6 := Lib.hid (((Below.refl wr.heap.size wr).drew).trans hb6); have hS6 := And.intro (HCX.out _ HB6.out) (HCY.out _ HB6.out); clear hp1 hp2 hb6))
              | (go_at_call 23; (refine (rsame_any ⟨xk, xc, xm, xb, xq, xs', xr⟩ ⟨xk, xc, xm, xb, xq, xs', xr⟩ (.slice xa1 xs'.length xc1) (.slice xa2 xr.length xc2) _ _ _ (HXG.out.1.row.below HB6.out (Nat.le_refl _)) (HXG.out.2.row.below HB6.out (Nat.le_refl _)) HP1.out HP2.out).mono ?_; rintro e w7 ⟨rfl, hb7⟩; rw [sameA_refl]; have HB7 := Lib.hid (HB6.out.trans (hb7.mono HB6.out.size)); have hS7 := And.intro (HCX.out _ HB7.out) (HCY.out _ HB7.out); clear hb7))
              | fail)
            go_wp2_with fail
            exact ⟨⟨j + 1, by omega, by go_num, HBr.out.trans (HB7.out.mono hsr)⟩, by simp [intOf]; omega⟩
          · obtain rfl : j = nw := by omega
            go_wp2_with fail
            go_ret
            exact ⟨rfl, HB5.out.trans (HBr.out.mono HB5.out.size)⟩
      · have hne : ((er : Int) != 0) = true := bne_iff_ne.2 h0
        have hneq : ((er : Int) != er) = false := bne_self_eq_false' er
        go_wp2_with fail
        refine (rrec_any _ _ wp _ HWA2.out HSW.out hwl).mono ?_
        rintro e w3 ⟨hend, h3⟩
        rw [HR.out] at hend
        obtain ⟨_, rfl⟩ := Or.resolve_left hend (fun h => h0 h.1)
        have HB3 := Lib.hid (HB2.out.trans (h3.mono HB2.out.size))
        clear h3
        go_wp2_with fail
        refine (same_any _ _ [] [] _ (.inl ⟨rfl, rfl⟩) (.inl ⟨rfl, rfl⟩)).mono ?_
        rintro e w4 ⟨rfl, rfl⟩
        rw [decide_eq_true rfl]
        go_wp2_with fail
        go_ret
        exact ⟨rfl, HB3.out⟩

theorem sfieldRecords_any (v : Value) (xs : List AEl) (w : World) (hv : ASrc w v xs) (hc : Cmds w) :
    Calls Tryd.prog 7 #[v] w fun e w' => e = .returned (.bool true) ∧ Below w.heap.size w w' := sfieldRecords_walk v xs w hv hc
end Go.Proofs.YtcibhchbgendaaaDoor.Sf
