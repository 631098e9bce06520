/- The walk of vitrineref21.Make: the field of an act. -/
import Derived.Test.YtcibhchbgendaaaDoorSfPlain
import Derived.Test.YtcibhchbgendaaaDoorSfMField
import Derived.Test.YtcibhchbgendaaaDoorSfOf2
import Derived.Test.YtcibhchbgendaaaDoorSfRef
namespace Go.Proofs.YtcibhchbgendaaaDoor.Sf
open Go Go.RowKit Go.Proofs.YtcibhchbgendaaaDoor.By
attribute [local go_sem ↓] Go.wp_at_zero Go.wp_at_succ

/-- what lies in memory when the field has been made -/
def Made (w W : World) (acs : Array Value) (fcs : Array Value) (v : Value) (dl : List Nat) : Prop :=
  Below w.heap.size w W ∧ Bk W w.heap.size 26 acs ∧ Bk W (w.heap.size + 1) 43 #[.int .u8 0, .slice none 0 0] ∧ Bk W (w.heap.size + 1 + 1) 43 fcs ∧ BOwn (w.heap.size + 3) W v dl
theorem made_set {w V : World} {acs : Array Value} {z0 z1 : Value} {v : Value} {dl : List Nat} (h : Made w V acs #[z0, z1] v dl) (i s : Value) : Made w ((V.setCell ⟨w.heap.size + 1 + 1, 0, none⟩ i).setCell ⟨w.heap.size + 1 + 1, 1, none⟩ s) acs #[i, s] v dl := by
  obtain ⟨h1, h2, h3, h4, h5⟩ := h
  exact ⟨below_fill2 h1 (by omega) _ _, (h2.far (p := ⟨w.heap.size + 1 + 1, 0, none⟩) (by simp <;> omega) _).far (p := ⟨w.heap.size + 1 + 1, 1, none⟩) (by simp <;> omega) _, (h3.far (p := ⟨w.heap.size + 1 + 1, 0, none⟩) (by simp <;> omega) _).far (p := ⟨w.heap.size + 1 + 1, 1, none⟩) (by simp <;> omega) _, Bk_fill2 h4 _ _, BOwn_fill2 h5 (by omega) _ _⟩
theorem made_lit (w : World) (acs fcs : Array Value) (l : List Nat) (hl : l.length ≤ 1000) (hb : ∀ n ∈ l, n < 256) :
    Made w ((((w.alloc (.cells acs 26)).alloc (.cells #[.int .u8 0, .slice none 0 0] 43)).alloc (.cells fcs 43)).alloc (.cells (l.map bv).toArray 5)) acs fcs (.slice (some ⟨w.heap.size + 1 + 1 + 1, 0, none⟩) l.length l.length) l := by
  have a1 := Bk.new w 26 acs
  have a2 := Bk.new (w.alloc (.cells acs 26)) 43 #[.int .u8 0, .slice none 0 0]
  have a3 := Bk.new ((w.alloc (.cells acs 26)).alloc (.cells #[.int .u8 0, .slice none 0 0] 43)) 43 fcs
  have a4 := own_lit (((w.alloc (.cells acs 26)).alloc (.cells #[.int .u8 0, .slice none 0 0] 43)).alloc (.cells fcs 43)) l hl hb
  simp only [World.size_alloc] at a2 a3 a4
  exact ⟨((((Below.refl _ _).alloc (Nat.le_refl _) _).alloc (by simp) _).alloc (by simp; omega) _).alloc (by simp; omega) _, ((a1.alloc _).alloc _).alloc _, (a2.alloc _).alloc _, a3.alloc _, a4⟩
theorem made_grown {w V V' : World} {acs fcs : Array Value} {v v' : Value} {l l' : List Nat} (h : Made w V acs fcs v l) (hg : V.grownBy V' v.ownBlock) (ho : BOwn (w.heap.size + 3) V' v' l') : Made w V' acs fcs v' l' := by
  obtain ⟨h1, h2, h3, h4, h5⟩ := h
  have hs : ∀ j, v.ownBlock = some j → w.heap.size + 3 ≤ j := fun j hj => (h5.2.lt j hj).1
  exact ⟨h1.grown hg h1.size (fun j hj => by have := hs j hj; omega), h2.grown hg (fun e => by have := hs _ e.symm; omega), h3.grown hg (fun e => by have := hs _ e.symm; omega), h4.grown hg (fun e => by have := hs _ e.symm; omega), ho⟩

set_option maxHeartbeats 8000000 in
set_option maxRecDepth 100000 in
theorem rmake1_any (c m : Int) (b : Bool) (q : Nat) (cs rc : List Nat) (ca ra : Value) (w : World) (_hq : q < 256) (h1 : BRow w ca cs) (h2 : BRow w ra rc) (_l1 : cs.length ≤ 1000) (_l2 : rc.length ≤ 1000) :
    Calls Tryd.prog 28 #[aval ⟨1, c, m, b, q, cs, rc⟩ ca ra] w fun e w' => FdEnd (makeOf ⟨1, c, m, b, q, cs, rc⟩) w.heap.size e w' ∧ Below w.heap.size w w' := by
  simp only [aval]
  obtain ⟨ca, cac, rfl⟩ := BRow_form h1
  obtain ⟨ra, rac, rfl⟩ := BRow_form h2
  obtain ⟨n1, e1⟩ : ∃ n, n = cs.length := ⟨_, rfl⟩
  obtain ⟨n2, e2⟩ : ∃ n, n = rc.length := ⟨_, rfl⟩
  rw [← e1] at h1 _l1 ⊢
  rw [← e2] at h2 _l2 ⊢
  have E1 := Lib.hid e1
  have E2 := Lib.hid e2
  have HW1 := Lib.hid (fun (W : World) (h : Below w.heap.size w W) => h1.below h (Nat.le_refl _))
  have HW2 := Lib.hid (fun (W : World) (h : Below w.heap.size w W) => h2.below h (Nat.le_refl _))
  clear h1 h2 e1 e2
  have HDL := Lib.hid (show dataOf ⟨1, c, m, b, q, cs, rc⟩ = [255, 2] from rfl)
  have HMD := Lib.hid (made_lit w (#[.int .i64 1, .int .i64 c, .int .i64 m, .bool b, .int .u8 (q : Int), .slice ca n1 cac, .slice ra n2 rac]) #[.int .u8 1, .slice (some ⟨w.heap.size + 1 + 1 + 1, 0, none⟩) 2 2] [255, 2] (by simp) (by decide))
  go_enter Tryd.func28, Tryd.ntmps28
  go_wp2_with fail
  refine (rof_any 1 (w.heap.size + 3) (.slice (some ⟨w.heap.size + 1 + 1 + 1, 0, none⟩) 2 2) [255, 2] _ HMD.out.2.2.2.2 (by simp <;> omega)).mono ?_
  rintro e w2 ⟨⟨cv, rv, rfl, h1, h2⟩, hb⟩
  obtain ⟨r, hr⟩ : ∃ r, actOf 1 [255, 2] = r := ⟨_, rfl⟩
  rw [hr] at h1 h2 ⊢
  have HR := Lib.hid hr
  have hM2 : Made w w2 (#[.int .i64 1, .int .i64 c, .int .i64 m, .bool b, .int .u8 (q : Int), .slice ca n1 cac, .slice ra n2 rac]) #[.int .u8 1, .slice (some ⟨w.heap.size + 1 + 1 + 1, 0, none⟩) 2 2] (.slice (some ⟨w.heap.size + 1 + 1 + 1, 0, none⟩) 2 2) [255, 2] := ⟨HMD.out.1.trans (hb.mono HMD.out.1.size), HMD.out.2.1.below hb HMD.out.2.1.lt, HMD.out.2.2.1.below hb HMD.out.2.2.1.lt, HMD.out.2.2.2.1.below hb HMD.out.2.2.2.1.lt, HMD.out.2.2.2.2.below hb (Nat.le_refl _)⟩
  have HM2 := Lib.hid hM2
  have hl2 : w.heap.size + 1 + 1 < w2.heap.size := hM2.2.2.2.1.lt
  have hl0 : w.heap.size < w2.heap.size := by omega
  have hl1 : w.heap.size + 1 < w2.heap.size := by omega
  clear hb hr hM2
  obtain ⟨⟨ak, acm, am, ab, aq, acs, arc⟩, ae⟩ := r
  simp only [aval] at h1 h2 ⊢
  obtain ⟨cb, cbc, rfl⟩ := BOwn_form h1
  obtain ⟨rb, rbc, rfl⟩ := BOwn_form h2
  have H3 := Lib.hid h1
  have H4 := Lib.hid h2
  clear h1 h2
  obtain ⟨n3, e3⟩ : ∃ n, n = acs.length := ⟨_, rfl⟩
  obtain ⟨n4, e4⟩ : ∃ n, n = arc.length := ⟨_, rfl⟩
  rw [← e3] at H3 ⊢
  rw [← e4] at H4 ⊢
  clear e3 e4
  by_cases hae : ae = 0
  · subst hae
    have HBB := Lib.hid ((Below.refl w2.heap.size w2).alloc (Nat.le_refl _) (.cells #[.int .i64 ak, .int .i64 acm, .int .i64 am, .bool ab, .int .u8 (aq : Int), .slice cb n3 cbc, .slice rb n4 rbc] 26))
    have HBK := Lib.hid (Bk.new w2 26 #[.int .i64 ak, .int .i64 acm, .int .i64 am, .bool ab, .int .u8 (aq : Int), .slice cb n3 cbc, .slice rb n4 rbc])
    have HB2B := Lib.hid (HM2.out.1.trans (HBB.out.mono (by omega)))
    have hpl := plain_any ⟨1, c, m, b, q, cs, rc⟩ (.slice ca n1 cac) (.slice ra n2 rac) (w2.alloc (.cells #[.int .i64 ak, .int .i64 acm, .int .i64 am, .bool ab, .int .u8 (aq : Int), .slice cb n3 cbc, .slice rb n4 rbc] 26)).drew (HW1.out _ HB2B.out.drew) (HW2.out _ HB2B.out.drew)
    obtain ⟨pa, hpa⟩ : ∃ pa, plainOf ⟨1, c, m, b, q, cs, rc⟩ = pa := ⟨_, rfl⟩
    rw [hpa] at hpl
    have HPA := Lib.hid hpa
    have HPL := Lib.hid hpl
    obtain ⟨d0, d1, d2, d3, d4, d5, d6⟩ := cells7 HM2.out.2.1
    clear hpl hpa
    have TOK := Lib.hid True.intro
    go_wp2_with fail
    go_region_with (first
      | (go_at_call 31; refine HPL.out.mono ?_; rintro e w3 ⟨⟨pv, pu, rfl, hp1, hp2⟩, hb3⟩; have HB3 := Lib.hid (HBB.out.drew.trans (hb3.mono (by simp))); have HP1 := Lib.hid hp1; have HP2 := Lib.hid hp2; obtain ⟨g0, g1, g2, g3, g4, g5, g6⟩ := cells7 (HBK.out.drew.below hb3 (by simp)); clear hb3 hp1 hp2)
      | (go_at_call 23; refine (rsame_any ⟨ak, acm, am, ab, aq, acs, arc⟩ pa _ _ _ _ _ (H3.out.row.below HB3.out (Nat.le_refl _)) (H4.out.row.below HB3.out (Nat.le_refl _)) HP1.out HP2.out).mono ?_; rintro e w4 ⟨rfl, hb4⟩; have HB4 := Lib.hid (HB3.out.trans (hb4.mono HB3.out.size)); clear hb4)
      | fail)
    all_goals
      clear d0 d1 d2 d3 d4 d5 d6 g0 g1 g2 g3 g4 g5 g6
      have HF4 := Lib.hid (HM2.out.2.2.2.1.below HB4.out hl2)
      have HR4 := Lib.hid (HM2.out.2.2.1.below HB4.out hl1)
      have HO4 := Lib.hid (HM2.out.2.2.2.2.below HB4.out (Nat.le_refl _))
      have HW4 := Lib.hid (HM2.out.1.trans (HB4.out.mono (by omega)))
      obtain ⟨⟨f0, f1⟩, g0, g1⟩ := cells2 HF4.out
      obtain ⟨⟨p0, p1⟩, q0, q1⟩ := cells2 HR4.out
      by_cases hs : sameA ⟨ak, acm, am, ab, aq, acs, arc⟩ pa = true
      · rw [hs]
        have HM := Lib.hid (show makeOf ⟨1, c, m, b, q, cs, rc⟩ = ((1, [255, 2]), 0) by
          have hx : actOf (idOf ⟨1, c, m, b, q, cs, rc⟩) (dataOf ⟨1, c, m, b, q, cs, rc⟩) = (⟨ak, acm, am, ab, aq, acs, arc⟩, 0) := by rw [HDL.out]; exact HR.out
          unfold makeOf
          rw [if_pos (by show isKind 1; decide), hx, HPA.out, if_pos ⟨rfl, hs⟩, HDL.out]
          try rfl)
        clear hs
        go_wp2_with fail
        clear f0 f1 g0 g1 p0 p1 q0 q1
        exact bodyPost_ret (v := .tuple #[.agg #[.int .u8 1, .slice (some ⟨w.heap.size + 1 + 1 + 1, 0, none⟩) 2 2], .int .i64 0]) (results_struct_tmp (p := 2) (q := 3) rfl _ _ (w.heap.size + 1) 43 _ _ _ rfl (Bk_fill2 HR4.out _ _) Tryd.underlying43 rfl (by kernel_rfl)) rfl
          ⟨by rw [HM.out]; exact ⟨_, rfl, (BOwn_fill2 HO4.out (by omega) _ _).lower (C := w.heap.size) (by omega)⟩, below_fill2 HW4.out (by omega) _ _⟩
      · have hsf : sameA ⟨ak, acm, am, ab, aq, acs, arc⟩ pa = false := by simpa using hs
        rw [hsf]
        have HM := Lib.hid (show makeOf ⟨1, c, m, b, q, cs, rc⟩ = ((0, []), 4) by
          have hx : actOf (idOf ⟨1, c, m, b, q, cs, rc⟩) (dataOf ⟨1, c, m, b, q, cs, rc⟩) = (⟨ak, acm, am, ab, aq, acs, arc⟩, 0) := by rw [HDL.out]; exact HR.out
          unfold makeOf
          rw [if_pos (by show isKind 1; decide), hx, HPA.out, if_neg (fun h => hs h.2)])
        clear hs hsf
        go_wp2_with fail
        clear f0 f1 g0 g1 p0 p1 q0 q1
        exact bodyPost_ret (v := .tuple #[.agg #[.int .u8 0, .slice none 0 0], .int .i64 4]) (results_struct_tmp (p := 2) (q := 3) rfl _ _ (w.heap.size + 1) 43 _ _ _ rfl (Bk_fill2 HR4.out _ _) Tryd.underlying43 rfl (by kernel_rfl)) rfl
          ⟨by rw [HM.out]; exact ⟨_, rfl, BOwn_nil⟩, below_fill2 HW4.out (by omega) _ _⟩
  · have hne : ((ae : Int) != 0) = true := bne_iff_ne.2 hae
    have HM := Lib.hid (show makeOf ⟨1, c, m, b, q, cs, rc⟩ = ((0, []), 4) by
      have hx : actOf (idOf ⟨1, c, m, b, q, cs, rc⟩) (dataOf ⟨1, c, m, b, q, cs, rc⟩) = (⟨ak, acm, am, ab, aq, acs, arc⟩, ae) := by rw [HDL.out]; exact HR.out
      unfold makeOf
      rw [if_pos (by show isKind 1; decide), hx, if_neg (fun h => hae h.1)])
    obtain ⟨⟨p0, p1⟩, q0, q1⟩ := cells2 HM2.out.2.2.1
    clear hae
    go_wp2_with fail
    go_region_with fail
    all_goals
      go_wp2_with fail
      clear p0 p1 q0 q1
      exact bodyPost_ret (v := .tuple #[.agg #[.int .u8 0, .slice none 0 0], .int .i64 4]) (results_struct_tmp (p := 2) (q := 3) rfl _ _ (w.heap.size + 1) 43 _ _ _ rfl ((Bk_fill2 HM2.out.2.2.1 _ _).alloc _).drew Tryd.underlying43 rfl (by kernel_rfl)) rfl
        ⟨by rw [HM.out]; exact ⟨_, rfl, BOwn_nil⟩, ((below_fill2 HM2.out.1 (by omega) _ _).alloc (by simp [World.setCell]; omega) _).drew⟩
set_option maxHeartbeats 8000000 in
set_option maxRecDepth 100000 in
theorem rmake2_any (c m : Int) (b : Bool) (q : Nat) (cs rc : List Nat) (ca ra : Value) (w : World) (_hq : q < 256) (h1 : BRow w ca cs) (h2 : BRow w ra rc) (_l1 : cs.length ≤ 1000) (_l2 : rc.length ≤ 1000) :
    Calls Tryd.prog 28 #[aval ⟨2, c, m, b, q, cs, rc⟩ ca ra] w fun e w' => FdEnd (makeOf ⟨2, c, m, b, q, cs, rc⟩) w.heap.size e w' ∧ Below w.heap.size w w' := by
  simp only [aval]
  obtain ⟨ca, cac, rfl⟩ := BRow_form h1
  obtain ⟨ra, rac, rfl⟩ := BRow_form h2
  obtain ⟨n1, e1⟩ : ∃ n, n = cs.length := ⟨_, rfl⟩
  obtain ⟨n2, e2⟩ : ∃ n, n = rc.length := ⟨_, rfl⟩
  rw [← e1] at h1 _l1 ⊢
  rw [← e2] at h2 _l2 ⊢
  have E1 := Lib.hid e1
  have E2 := Lib.hid e2
  have HW1 := Lib.hid (fun (W : World) (h : Below w.heap.size w W) => h1.below h (Nat.le_refl _))
  have HW2 := Lib.hid (fun (W : World) (h : Below w.heap.size w W) => h2.below h (Nat.le_refl _))
  clear h1 h2 e1 e2
  obtain ⟨dl, hdl⟩ : ∃ dl, [255, 3, q] ++ cs = dl := ⟨_, rfl⟩
  have HDL := Lib.hid (show dataOf ⟨2, c, m, b, q, cs, rc⟩ = dl from hdl)
  obtain ⟨nn, hnn⟩ : ∃ nn, dl.length = nn := ⟨_, rfl⟩
  have HDD := Lib.hid hdl
  have HNN := Lib.hid hnn
  have hnn1 : nn ≤ 1003 := by rw [← hnn, ← hdl]; have := E1.out; simp; omega
  have HML := Lib.hid (made_lit w (#[.int .i64 2, .int .i64 c, .int .i64 m, .bool b, .int .u8 (q : Int), .slice ca n1 cac, .slice ra n2 rac]) #[.int .u8 0, .slice none 0 0] [255, 3, q] (by simp) (by intro n hn; simp at hn; omega))
  have HSRC := Lib.hid (HW1.out _ HML.out.1)
  have HSUM := Lib.hid (show ([255, 3, q] : List Nat).length + cs.length ≤ 1000000 by have := E1.out; simp; omega)
  have hsz : w.heap.size + 3 ≤ (((((w.alloc (.cells (#[.int .i64 2, .int .i64 c, .int .i64 m, .bool b, .int .u8 (q : Int), .slice ca n1 cac, .slice ra n2 rac]) 26)).alloc (.cells #[.int .u8 0, .slice none 0 0] 43)).alloc (.cells #[.int .u8 0, .slice none 0 0] 43)).alloc (.cells ([255, 3, q].map bv).toArray 5))).heap.size := by simp
  clear hdl hnn
  go_enter Tryd.func28, Tryd.ntmps28
  go_wp2_with (first | (at_builtin; refine wpList_append_brow rfl _ _ rfl (w.heap.size + 3) _ [255, 3, q] rfl HML.out.2.2.2.2 (.slice ca n1 cac) cs rfl HSRC.out hsz HSUM.out ?_; intro p5 c5 w5 hbo hgrow; rw [HDD.out, HNN.out] at hbo ⊢; have HM5 := Lib.hid (made_grown HML.out hgrow hbo); obtain ⟨⟨k0, k1⟩, j0, j1⟩ := cells2 HM5.out.2.2.2.1; clear hbo hgrow) | fail)
  clear k0 k1 j0 j1
  have HMD := Lib.hid (made_set HM5.out (.int .u8 1) (.slice p5 nn c5))
  refine (rof_any 1 (w.heap.size + 3) (.slice p5 nn c5) dl _ HMD.out.2.2.2.2 (by have := HNN.out; omega)).mono ?_
  rintro e w2 ⟨⟨cv, rv, rfl, h1, h2⟩, hb⟩
  obtain ⟨r, hr⟩ : ∃ r, actOf 1 dl = r := ⟨_, rfl⟩
  rw [hr] at h1 h2 ⊢
  have HR := Lib.hid hr
  have hM2 : Made w w2 (#[.int .i64 2, .int .i64 c, .int .i64 m, .bool b, .int .u8 (q : Int), .slice ca n1 cac, .slice ra n2 rac]) #[.int .u8 1, .slice p5 nn c5] (.slice p5 nn c5) dl := ⟨HMD.out.1.trans (hb.mono HMD.out.1.size), HMD.out.2.1.below hb HMD.out.2.1.lt, HMD.out.2.2.1.below hb HMD.out.2.2.1.lt, HMD.out.2.2.2.1.below hb HMD.out.2.2.2.1.lt, HMD.out.2.2.2.2.below hb (Nat.le_refl _)⟩
  have HM2 := Lib.hid hM2
  have hl2 : w.heap.size + 1 + 1 < w2.heap.size := hM2.2.2.2.1.lt
  have hl0 : w.heap.size < w2.heap.size := by omega
  have hl1 : w.heap.size + 1 < w2.heap.size := by omega
  clear hb hr hM2
  obtain ⟨⟨ak, acm, am, ab, aq, acs, arc⟩, ae⟩ := r
  simp only [aval] at h1 h2 ⊢
  obtain ⟨cb, cbc, rfl⟩ := BOwn_form h1
  obtain ⟨rb, rbc, rfl⟩ := BOwn_form h2
  have H3 := Lib.hid h1
  have H4 := Lib.hid h2
  clear h1 h2
  obtain ⟨n3, e3⟩ : ∃ n, n = acs.length := ⟨_, rfl⟩
  obtain ⟨n4, e4⟩ : ∃ n, n = arc.length := ⟨_, rfl⟩
  rw [← e3] at H3 ⊢
  rw [← e4] at H4 ⊢
  clear e3 e4
  by_cases hae : ae = 0
  · subst hae
    have HBB := Lib.hid ((Below.refl w2.heap.size w2).alloc (Nat.le_refl _) (.cells #[.int .i64 ak, .int .i64 acm, .int .i64 am, .bool ab, .int .u8 (aq : Int), .slice cb n3 cbc, .slice rb n4 rbc] 26))
    have HBK := Lib.hid (Bk.new w2 26 #[.int .i64 ak, .int .i64 acm, .int .i64 am, .bool ab, .int .u8 (aq : Int), .slice cb n3 cbc, .slice rb n4 rbc])
    have HB2B := Lib.hid (HM2.out.1.trans (HBB.out.mono (by omega)))
    have hpl := plain_any ⟨2, c, m, b, q, cs, rc⟩ (.slice ca n1 cac) (.slice ra n2 rac) (w2.alloc (.cells #[.int .i64 ak, .int .i64 acm, .int .i64 am, .bool ab, .int .u8 (aq : Int), .slice cb n3 cbc, .slice rb n4 rbc] 26)).drew (HW1.out _ HB2B.out.drew) (HW2.out _ HB2B.out.drew)
    obtain ⟨pa, hpa⟩ : ∃ pa, plainOf ⟨2, c, m, b, q, cs, rc⟩ = pa := ⟨_, rfl⟩
    rw [hpa] at hpl
    have HPA := Lib.hid hpa
    have HPL := Lib.hid hpl
    obtain ⟨d0, d1, d2, d3, d4, d5, d6⟩ := cells7 HM2.out.2.1
    clear hpl hpa
    have TOK := Lib.hid True.intro
    go_wp2_with fail
    go_region_with (first
      | (go_at_call 31; refine HPL.out.mono ?_; rintro e w3 ⟨⟨pv, pu, rfl, hp1, hp2⟩, hb3⟩; have HB3 := Lib.hid (HBB.out.drew.trans (hb3.mono (by simp))); have HP1 := Lib.hid hp1; have HP2 := Lib.hid hp2; obtain ⟨g0, g1, g2, g3, g4, g5, g6⟩ := cells7 (HBK.out.drew.below hb3 (by simp)); clear hb3 hp1 hp2)
      | (go_at_call 23; refine (rsame_any ⟨ak, acm, am, ab, aq, acs, arc⟩ pa _ _ _ _ _ (H3.out.row.below HB3.out (Nat.le_refl _)) (H4.out.row.below HB3.out (Nat.le_refl _)) HP1.out HP2.out).mono ?_; rintro e w4 ⟨rfl, hb4⟩; have HB4 := Lib.hid (HB3.out.trans (hb4.mono HB3.out.size)); clear hb4)
      | fail)
    all_goals
      clear d0 d1 d2 d3 d4 d5 d6 g0 g1 g2 g3 g4 g5 g6
      have HF4 := Lib.hid (HM2.out.2.2.2.1.below HB4.out hl2)
      have HR4 := Lib.hid (HM2.out.2.2.1.below HB4.out hl1)
      have HO4 := Lib.hid (HM2.out.2.2.2.2.below HB4.out (Nat.le_refl _))
      have HW4 := Lib.hid (HM2.out.1.trans (HB4.out.mono (by omega)))
      obtain ⟨⟨f0, f1⟩, g0, g1⟩ := cells2 HF4.out
      obtain ⟨⟨p0, p1⟩, q0, q1⟩ := cells2 HR4.out
      by_cases hs : sameA ⟨ak, acm, am, ab, aq, acs, arc⟩ pa = true
      · rw [hs]
        have HM := Lib.hid (show makeOf ⟨2, c, m, b, q, cs, rc⟩ = ((1, dl), 0) by
          have hx : actOf (idOf ⟨2, c, m, b, q, cs, rc⟩) (dataOf ⟨2, c, m, b, q, cs, rc⟩) = (⟨ak, acm, am, ab, aq, acs, arc⟩, 0) := by rw [HDL.out]; exact HR.out
          unfold makeOf
          rw [if_pos (by show isKind 2; decide), hx, HPA.out, if_pos ⟨rfl, hs⟩, HDL.out]
          try rfl)
        clear hs
        go_wp2_with fail
        clear f0 f1 g0 g1 p0 p1 q0 q1
        exact bodyPost_ret (v := .tuple #[.agg #[.int .u8 1, .slice p5 nn c5], .int .i64 0]) (results_struct_tmp (p := 2) (q := 3) rfl _ _ (w.heap.size + 1) 43 _ _ _ rfl (Bk_fill2 HR4.out _ _) Tryd.underlying43 rfl (by kernel_rfl)) rfl
          ⟨by rw [HM.out]; exact ⟨_, rfl, (BOwn_fill2 HO4.out (by omega) _ _).lower (C := w.heap.size) (by omega)⟩, below_fill2 HW4.out (by omega) _ _⟩
      · have hsf : sameA ⟨ak, acm, am, ab, aq, acs, arc⟩ pa = false := by simpa using hs
        rw [hsf]
        have HM := Lib.hid (show makeOf ⟨2, c, m, b, q, cs, rc⟩ = ((0, []), 4) by
          have hx : actOf (idOf ⟨2, c, m, b, q, cs, rc⟩) (dataOf ⟨2, c, m, b, q, cs, rc⟩) = (⟨ak, acm, am, ab, aq, acs, arc⟩, 0) := by rw [HDL.out]; exact HR.out
          unfold makeOf
          rw [if_pos (by show isKind 2; decide), hx, HPA.out, if_neg (fun h => hs h.2)])
        clear hs hsf
        go_wp2_with fail
        clear f0 f1 g0 g1 p0 p1 q0 q1
        exact bodyPost_ret (v := .tuple #[.agg #[.int .u8 0, .slice none 0 0], .int .i64 4]) (results_struct_tmp (p := 2) (q := 3) rfl _ _ (w.heap.size + 1) 43 _ _ _ rfl (Bk_fill2 HR4.out _ _) Tryd.underlying43 rfl (by kernel_rfl)) rfl
          ⟨by rw [HM.out]; exact ⟨_, rfl, BOwn_nil⟩, below_fill2 HW4.out (by omega) _ _⟩
  · have hne : ((ae : Int) != 0) = true := bne_iff_ne.2 hae
    have HM := Lib.hid (show makeOf ⟨2, c, m, b, q, cs, rc⟩ = ((0, []), 4) by
      have hx : actOf (idOf ⟨2, c, m, b, q, cs, rc⟩) (dataOf ⟨2, c, m, b, q, cs, rc⟩) = (⟨ak, acm, am, ab, aq, acs, arc⟩, ae) := by rw [HDL.out]; exact HR.out
      unfold makeOf
      rw [if_pos (by show isKind 2; decide), hx, if_neg (fun h => hae h.1)])
    obtain ⟨⟨p0, p1⟩, q0, q1⟩ := cells2 HM2.out.2.2.1
    clear hae
    go_wp2_with fail
    go_region_with fail
    all_goals
      go_wp2_with fail
      clear p0 p1 q0 q1
      exact bodyPost_ret (v := .tuple #[.agg #[.int .u8 0, .slice none 0 0], .int .i64 4]) (results_struct_tmp (p := 2) (q := 3) rfl _ _ (w.heap.size + 1) 43 _ _ _ rfl ((Bk_fill2 HM2.out.2.2.1 _ _).alloc _).drew Tryd.underlying43 rfl (by kernel_rfl)) rfl
        ⟨by rw [HM.out]; exact ⟨_, rfl, BOwn_nil⟩, ((below_fill2 HM2.out.1 (by omega) _ _).alloc (by simp [World.setCell]; omega) _).drew⟩
set_option maxHeartbeats 8000000 in
set_option maxRecDepth 100000 in
theorem rmake3_any (c m : Int) (b : Bool) (q : Nat) (cs rc : List Nat) (ca ra : Value) (w : World) (_hq : q < 256) (h1 : BRow w ca cs) (h2 : BRow w ra rc) (_l1 : cs.length ≤ 1000) (_l2 : rc.length ≤ 1000) :
    Calls Tryd.prog 28 #[aval ⟨3, c, m, b, q, cs, rc⟩ ca ra] w fun e w' => FdEnd (makeOf ⟨3, c, m, b, q, cs, rc⟩) w.heap.size e w' ∧ Below w.heap.size w w' := by
  simp only [aval]
  obtain ⟨ca, cac, rfl⟩ := BRow_form h1
  obtain ⟨ra, rac, rfl⟩ := BRow_form h2
  obtain ⟨n1, e1⟩ : ∃ n, n = cs.length := ⟨_, rfl⟩
  obtain ⟨n2, e2⟩ : ∃ n, n = rc.length := ⟨_, rfl⟩
  rw [← e1] at h1 _l1 ⊢
  rw [← e2] at h2 _l2 ⊢
  have E1 := Lib.hid e1
  have E2 := Lib.hid e2
  have HW1 := Lib.hid (fun (W : World) (h : Below w.heap.size w W) => h1.below h (Nat.le_refl _))
  have HW2 := Lib.hid (fun (W : World) (h : Below w.heap.size w W) => h2.below h (Nat.le_refl _))
  clear h1 h2 e1 e2
  have hlt := byteOf_lt c
  obtain ⟨y, hy⟩ : ∃ y, byteOf c = y := ⟨_, rfl⟩
  have HY := Lib.hid hy
  rw [hy] at hlt
  have HD0 := Lib.hid (show dataOf ⟨3, c, m, b, q, cs, rc⟩ = [0, y] by rw [← hy]; rfl)
  clear hy
  have HDL := Lib.hid (show dataOf ⟨3, c, m, b, q, cs, rc⟩ = [0, y] from by rw [HD0.out])
  have HMD := Lib.hid (made_lit w (#[.int .i64 3, .int .i64 c, .int .i64 m, .bool b, .int .u8 (q : Int), .slice ca n1 cac, .slice ra n2 rac]) #[.int .u8 1, .slice (some ⟨w.heap.size + 1 + 1 + 1, 0, none⟩) 2 2] [0, y] (by simp) (by intro n hn; simp at hn; omega))
  go_enter Tryd.func28, Tryd.ntmps28
  go_wp2_with fail
  refine (rbyte_any c _).mono ?_
  rintro e w1 ⟨rfl, rfl⟩
  rw [HY.out]
  go_wp2_with fail
  refine (rof_any 1 (w.heap.size + 3) (.slice (some ⟨w.heap.size + 1 + 1 + 1, 0, none⟩) 2 2) [0, y] _ HMD.out.2.2.2.2 (by simp <;> omega)).mono ?_
  rintro e w2 ⟨⟨cv, rv, rfl, h1, h2⟩, hb⟩
  obtain ⟨r, hr⟩ : ∃ r, actOf 1 [0, y] = r := ⟨_, rfl⟩
  rw [hr] at h1 h2 ⊢
  have HR := Lib.hid hr
  have hM2 : Made w w2 (#[.int .i64 3, .int .i64 c, .int .i64 m, .bool b, .int .u8 (q : Int), .slice ca n1 cac, .slice ra n2 rac]) #[.int .u8 1, .slice (some ⟨w.heap.size + 1 + 1 + 1, 0, none⟩) 2 2] (.slice (some ⟨w.heap.size + 1 + 1 + 1, 0, none⟩) 2 2) [0, y] := ⟨HMD.out.1.trans (hb.mono HMD.out.1.size), HMD.out.2.1.below hb HMD.out.2.1.lt, HMD.out.2.2.1.below hb HMD.out.2.2.1.lt, HMD.out.2.2.2.1.below hb HMD.out.2.2.2.1.lt, HMD.out.2.2.2.2.below hb (Nat.le_refl _)⟩
  have HM2 := Lib.hid hM2
  have hl2 : w.heap.size + 1 + 1 < w2.heap.size := hM2.2.2.2.1.lt
  have hl0 : w.heap.size < w2.heap.size := by omega
  have hl1 : w.heap.size + 1 < w2.heap.size := by omega
  clear hb hr hM2
  obtain ⟨⟨ak, acm, am, ab, aq, acs, arc⟩, ae⟩ := r
  simp only [aval] at h1 h2 ⊢
  obtain ⟨cb, cbc, rfl⟩ := BOwn_form h1
  obtain ⟨rb, rbc, rfl⟩ := BOwn_form h2
  have H3 := Lib.hid h1
  have H4 := Lib.hid h2
  clear h1 h2
  obtain ⟨n3, e3⟩ : ∃ n, n = acs.length := ⟨_, rfl⟩
  obtain ⟨n4, e4⟩ : ∃ n, n = arc.length := ⟨_, rfl⟩
  rw [← e3] at H3 ⊢
  rw [← e4] at H4 ⊢
  clear e3 e4
  by_cases hae : ae = 0
  · subst hae
    have HBB := Lib.hid ((Below.refl w2.heap.size w2).alloc (Nat.le_refl _) (.cells #[.int .i64 ak, .int .i64 acm, .int .i64 am, .bool ab, .int .u8 (aq : Int), .slice cb n3 cbc, .slice rb n4 rbc] 26))
    have HBK := Lib.hid (Bk.new w2 26 #[.int .i64 ak, .int .i64 acm, .int .i64 am, .bool ab, .int .u8 (aq : Int), .slice cb n3 cbc, .slice rb n4 rbc])
    have HB2B := Lib.hid (HM2.out.1.trans (HBB.out.mono (by omega)))
    have hpl := plain_any ⟨3, c, m, b, q, cs, rc⟩ (.slice ca n1 cac) (.slice ra n2 rac) (w2.alloc (.cells #[.int .i64 ak, .int .i64 acm, .int .i64 am, .bool ab, .int .u8 (aq : Int), .slice cb n3 cbc, .slice rb n4 rbc] 26)).drew (HW1.out _ HB2B.out.drew) (HW2.out _ HB2B.out.drew)
    obtain ⟨pa, hpa⟩ : ∃ pa, plainOf ⟨3, c, m, b, q, cs, rc⟩ = pa := ⟨_, rfl⟩
    rw [hpa] at hpl
    have HPA := Lib.hid hpa
    have HPL := Lib.hid hpl
    obtain ⟨d0, d1, d2, d3, d4, d5, d6⟩ := cells7 HM2.out.2.1
    clear hpl hpa
    have TOK := Lib.hid True.intro
    go_wp2_with fail
    go_region_with (first
      | (go_at_call 31; refine HPL.out.mono ?_; rintro e w3 ⟨⟨pv, pu, rfl, hp1, hp2⟩, hb3⟩; have HB3 := Lib.hid (HBB.out.drew.trans (hb3.mono (by simp))); have HP1 := Lib.hid hp1; have HP2 := Lib.hid hp2; obtain ⟨g0, g1, g2, g3, g4, g5, g6⟩ := cells7 (HBK.out.drew.below hb3 (by simp)); clear hb3 hp1 hp2)
      | (go_at_call 23; refine (rsame_any ⟨ak, acm, am, ab, aq, acs, arc⟩ pa _ _ _ _ _ (H3.out.row.below HB3.out (Nat.le_refl _)) (H4.out.row.below HB3.out (Nat.le_refl _)) HP1.out HP2.out).mono ?_; rintro e w4 ⟨rfl, hb4⟩; have HB4 := Lib.hid (HB3.out.trans (hb4.mono HB3.out.size)); clear hb4)
      | fail)
    all_goals
      clear d0 d1 d2 d3 d4 d5 d6 g0 g1 g2 g3 g4 g5 g6
      have HF4 := Lib.hid (HM2.out.2.2.2.1.below HB4.out hl2)
      have HR4 := Lib.hid (HM2.out.2.2.1.below HB4.out hl1)
      have HO4 := Lib.hid (HM2.out.2.2.2.2.below HB4.out (Nat.le_refl _))
      have HW4 := Lib.hid (HM2.out.1.trans (HB4.out.mono (by omega)))
      obtain ⟨⟨f0, f1⟩, g0, g1⟩ := cells2 HF4.out
      obtain ⟨⟨p0, p1⟩, q0, q1⟩ := cells2 HR4.out
      by_cases hs : sameA ⟨ak, acm, am, ab, aq, acs, arc⟩ pa = true
      · rw [hs]
        have HM := Lib.hid (show makeOf ⟨3, c, m, b, q, cs, rc⟩ = ((1, [0, y]), 0) by
          have hx : actOf (idOf ⟨3, c, m, b, q, cs, rc⟩) (dataOf ⟨3, c, m, b, q, cs, rc⟩) = (⟨ak, acm, am, ab, aq, acs, arc⟩, 0) := by rw [HDL.out]; exact HR.out
          unfold makeOf
          rw [if_pos (by show isKind 3; decide), hx, HPA.out, if_pos ⟨rfl, hs⟩, HDL.out]
          try rfl)
        clear hs
        go_wp2_with fail
        clear f0 f1 g0 g1 p0 p1 q0 q1
        exact bodyPost_ret (v := .tuple #[.agg #[.int .u8 1, .slice (some ⟨w.heap.size + 1 + 1 + 1, 0, none⟩) 2 2], .int .i64 0]) (results_struct_tmp (p := 2) (q := 3) rfl _ _ (w.heap.size + 1) 43 _ _ _ rfl (Bk_fill2 HR4.out _ _) Tryd.underlying43 rfl (by kernel_rfl)) rfl
          ⟨by rw [HM.out]; exact ⟨_, rfl, (BOwn_fill2 HO4.out (by omega) _ _).lower (C := w.heap.size) (by omega)⟩, below_fill2 HW4.out (by omega) _ _⟩
      · have hsf : sameA ⟨ak, acm, am, ab, aq, acs, arc⟩ pa = false := by simpa using hs
        rw [hsf]
        have HM := Lib.hid (show makeOf ⟨3, c, m, b, q, cs, rc⟩ = ((0, []), 4) by
          have hx : actOf (idOf ⟨3, c, m, b, q, cs, rc⟩) (dataOf ⟨3, c, m, b, q, cs, rc⟩) = (⟨ak, acm, am, ab, aq, acs, arc⟩, 0) := by rw [HDL.out]; exact HR.out
          unfold makeOf
          rw [if_pos (by show isKind 3; decide), hx, HPA.out, if_neg (fun h => hs h.2)])
        clear hs hsf
        go_wp2_with fail
        clear f0 f1 g0 g1 p0 p1 q0 q1
        exact bodyPost_ret (v := .tuple #[.agg #[.int .u8 0, .slice none 0 0], .int .i64 4]) (results_struct_tmp (p := 2) (q := 3) rfl _ _ (w.heap.size + 1) 43 _ _ _ rfl (Bk_fill2 HR4.out _ _) Tryd.underlying43 rfl (by kernel_rfl)) rfl
          ⟨by rw [HM.out]; exact ⟨_, rfl, BOwn_nil⟩, below_fill2 HW4.out (by omega) _ _⟩
  · have hne : ((ae : Int) != 0) = true := bne_iff_ne.2 hae
    have HM := Lib.hid (show makeOf ⟨3, c, m, b, q, cs, rc⟩ = ((0, []), 4) by
      have hx : actOf (idOf ⟨3, c, m, b, q, cs, rc⟩) (dataOf ⟨3, c, m, b, q, cs, rc⟩) = (⟨ak, acm, am, ab, aq, acs, arc⟩, ae) := by rw [HDL.out]; exact HR.out
      unfold makeOf
      rw [if_pos (by show isKind 3; decide), hx, if_neg (fun h => hae h.1)])
    obtain ⟨⟨p0, p1⟩, q0, q1⟩ := cells2 HM2.out.2.2.1
    clear hae
    go_wp2_with fail
    go_region_with fail
    all_goals
      go_wp2_with fail
      clear p0 p1 q0 q1
      exact bodyPost_ret (v := .tuple #[.agg #[.int .u8 0, .slice none 0 0], .int .i64 4]) (results_struct_tmp (p := 2) (q := 3) rfl _ _ (w.heap.size + 1) 43 _ _ _ rfl ((Bk_fill2 HM2.out.2.2.1 _ _).alloc _).drew Tryd.underlying43 rfl (by kernel_rfl)) rfl
        ⟨by rw [HM.out]; exact ⟨_, rfl, BOwn_nil⟩, ((below_fill2 HM2.out.1 (by omega) _ _).alloc (by simp [World.setCell]; omega) _).drew⟩
end Go.Proofs.YtcibhchbgendaaaDoor.Sf
