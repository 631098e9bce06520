/- The walk of (sfield.Act).Field: the field of an act. -/
import Derived.Test.YtcibhchbgendaaaDoorSfTold
import Derived.Test.YtcibhchbgendaaaDoorSfData
import Derived.Test.YtcibhchbgendaaaDoorSfFact
namespace Go.Proofs.YtcibhchbgendaaaDoor.Sf
open Go Go.RowKit Go.Proofs.YtcibhchbgendaaaDoor.By

/-- how a call ends that tells a field and an error -/
def FdEnd (r : (Nat × List Nat) × Int) (B : Nat) (e : Ending) (w' : World) : Prop := ∃ v, e = .returned (.tuple #[.agg #[.int .u8 (r.1.1 : Int), v], .int .i64 r.2]) ∧ BOwn B w' v r.1.2

theorem fill2 (z0 z1 a0 a1 : Value) : ((#[z0, z1] : Array Value).setIfInBounds 0 a0).setIfInBounds 1 a1 = #[a0, a1] := by simp
theorem Bk_fill2 {W : World} {g : Nat} {t : TypeId} {z0 z1 : Value} (h : Bk W g t #[z0, z1]) (a0 a1 : Value) : Bk ((W.setCell ⟨g, 0, none⟩ a0).setCell ⟨g, 1, none⟩ a1) g t #[a0, a1] := fill2 z0 z1 a0 a1 ▸ (h.set 0 a0).set 1 a1
theorem below_fill2 {B : Nat} {w W : World} (h : Below B w W) {g : Nat} (hg : B ≤ g) (a0 a1 : Value) : Below B w ((W.setCell ⟨g, 0, none⟩ a0).setCell ⟨g, 1, none⟩ a1) := (h.setCell (p := ⟨g, 0, none⟩) hg a0).setCell (p := ⟨g, 1, none⟩) hg a1
theorem BOwn_fill2 {B g : Nat} {W : World} {v : Value} {l : List Nat} (h : BOwn B W v l) (hg : g < B) (a0 a1 : Value) : BOwn B ((W.setCell ⟨g, 0, none⟩ a0).setCell ⟨g, 1, none⟩ a1) v l := BOwn_set (BOwn_set h hg a0) hg a1
theorem cells2 {W : World} {g : Nat} {t : TypeId} {z0 z1 : Value} (h : Bk W g t #[z0, z1]) : (W.cell? ⟨g, 0, none⟩ = some z0 ∧ W.cell? ⟨g, 1, none⟩ = some z1) ∧ W.frozen? ⟨g, 0, none⟩ = false ∧ W.frozen? ⟨g, 1, none⟩ = false := ⟨⟨h.cellv rfl, h.cellv rfl⟩, h.frozen 0, h.frozen 1⟩

set_option maxHeartbeats 4000000 in
set_option maxRecDepth 100000 in
theorem mfield_any (a : A) (B : Nat) (ca ra : Value) (w : World) (hq : a.req < 256) (h1 : BOwn B w ca a.codes) (h2 : BOwn B w ra a.rc) (l1 : a.codes.length ≤ 1000) (l2 : a.rc.length ≤ 1000) (hc : Cmds w) :
    Calls Tryd.prog 27 #[aval a ca ra] w fun e w' => FdEnd (makeOf a) w.heap.size e w' ∧ Below w.heap.size w w' := by
  have hdl : (dataOf a).length ≤ 1003 := by
    unfold dataOf
    split
    · simp
    · split
      · simp; omega
      · split
        · simp
        · split
          · split <;> simp
          · split
            · simp
            · split
              · simp; omega
              · simp
  obtain ⟨⟨k, c, m, b, q, cs, rc⟩, ha⟩ : ∃ x, a = x := ⟨a, rfl⟩
  rw [ha] at h1 h2
  change BOwn B w ca cs at h1
  change BOwn B w ra rc at h2
  obtain ⟨ca, cac, rfl⟩ := BOwn_form h1
  obtain ⟨ra, rac, rfl⟩ := BOwn_form h2
  obtain ⟨n1, e1⟩ : ∃ n, n = cs.length := ⟨_, rfl⟩
  obtain ⟨n2, e2⟩ : ∃ n, n = rc.length := ⟨_, rfl⟩
  rw [← e1] at h1 ⊢
  rw [← e2] at h2 ⊢
  have HB0 := Lib.hid (((Below.refl w.heap.size w).alloc (Nat.le_refl _) (.cells #[.int .i64 k, .int .i64 c, .int .i64 m, .bool b, .int .u8 (q : Int), .slice ca n1 cac, .slice ra n2 rac] 50)).alloc (by simp) (.cells #[.int .u8 0, .slice none 0 0] 40))
  have HAK := Lib.hid ((Bk.new w 50 #[.int .i64 k, .int .i64 c, .int .i64 m, .bool b, .int .u8 (q : Int), .slice ca n1 cac, .slice ra n2 rac]).alloc (.cells #[.int .u8 0, .slice none 0 0] 40))
  have HRK := Lib.hid (show Bk ((w.alloc (.cells #[.int .i64 k, .int .i64 c, .int .i64 m, .bool b, .int .u8 (q : Int), .slice ca n1 cac, .slice ra n2 rac] 50)).alloc (.cells #[.int .u8 0, .slice none 0 0] 40)) (w.heap.size + 1) 40 #[.int .u8 0, .slice none 0 0] from by
    have h := Bk.new (w.alloc (.cells #[.int .i64 k, .int .i64 c, .int .i64 m, .bool b, .int .u8 (q : Int), .slice ca n1 cac, .slice ra n2 rac] 50)) 40 #[.int .u8 0, .slice none 0 0]
    simp only [World.size_alloc] at h
    exact h)
  have H1 := Lib.hid (h1.below HB0.out (Nat.le_refl _))
  have H2 := Lib.hid (h2.below HB0.out (Nat.le_refl _))
  have HA := Lib.hid ha
  have hD := mdata_any a B (.slice ca n1 cac) (.slice ra n2 rac) _ hq (by rw [HA.out]; exact H1.out) (by rw [HA.out]; exact H2.out) l1 l2 (hc.below HB0.out hc.lt)
  have HD := Lib.hid hD
  have HC := Lib.hid hc
  have HW1 := Lib.hid (fun (W : World) (h : Below w.heap.size w W) => h1.row.below h (Nat.le_refl _))
  have HW2 := Lib.hid (fun (W : World) (h : Below w.heap.size w W) => h2.row.below h (Nat.le_refl _))
  rw [show aval a (.slice ca n1 cac) (.slice ra n2 rac) = .agg #[.int .i64 k, .int .i64 c, .int .i64 m, .bool b, .int .u8 (q : Int), .slice ca n1 cac, .slice ra n2 rac] by rw [ha]; rfl]
  rw [show aval a (.slice ca n1 cac) (.slice ra n2 rac) = .agg #[.int .i64 k, .int .i64 c, .int .i64 m, .bool b, .int .u8 (q : Int), .slice ca n1 cac, .slice ra n2 rac] by rw [ha]; rfl] at HD
  clear ha hD h1 h2 e1 e2 hc l1 l2 hq
  go_enter Tryd.func27, Tryd.ntmps27
  go_wp2_with fail
  refine HD.out.mono ?_
  rintro e w2 ⟨hend, hb⟩
  have HB2 := Lib.hid (HB0.out.trans (hb.mono (by simp; omega)))
  have HAK2 := Lib.hid (HAK.out.below hb (by simp; omega))
  have HRK2 := Lib.hid (HRK.out.below hb (by simp))
  have hs2 : w.heap.size + 2 ≤ w2.heap.size := by have := hb.size; simp at this; omega
  have hlt0 : w.heap.size < w2.heap.size := by omega
  have hlt1 : w.heap.size + 1 < w2.heap.size := by omega
  clear hb
  rcases hend with ⟨hk, p, cp, rfl, hown⟩ | ⟨hk, rfl⟩
  · have HO := Lib.hid (hown.lower (C := w.heap.size + 2) (by simp))
    have HK := Lib.hid hk
    obtain ⟨dl, hdl2⟩ : ∃ dl, dataOf a = dl := ⟨_, rfl⟩
    obtain ⟨id, hid⟩ : ∃ id, idOf a = id := ⟨_, rfl⟩
    rw [hdl2] at HO hdl
    rw [hdl2, hid]
    have HDL := Lib.hid hdl2
    have HID := Lib.hid hid
    obtain ⟨n, hn⟩ : ∃ n, n = dl.length := ⟨_, rfl⟩
    rw [← hn] at HO hdl ⊢
    have HN := Lib.hid hn
    clear hown hk hdl2 hid hn
    have HFB := Lib.hid ((Below.refl w2.heap.size w2).alloc (Nat.le_refl _) (.cells #[.int .u8 (id : Int), .slice p n cp] 40))
    have HFK := Lib.hid (Bk.new w2 40 #[.int .u8 (id : Int), .slice p n cp])
    go_wp2_with fail
    refine (fact_any (w.heap.size + 2) id _ dl _ (HO.out.below HFB.out (Nat.le_refl _)) (by have := HN.out; omega) (HC.out.below (HB2.out.trans (HFB.out.mono (by omega))) HC.out.lt)).mono ?_
    rintro e w3 ⟨⟨cv, rv, rfl, h1, h2⟩, hb⟩
    obtain ⟨r, hr⟩ : ∃ r, actOf id dl = r := ⟨_, rfl⟩
    rw [hr] at h1 h2 ⊢
    have HR := Lib.hid hr
    have hs3 : w2.heap.size + 1 ≤ w3.heap.size := by have := hb.size; simp at this; omega
    have HB3 := Lib.hid ((HB2.out.trans (HFB.out.mono (by omega))).trans (hb.mono (by simp; omega)))
    have HAK3 := Lib.hid ((HAK2.out.alloc _).below hb (by simp; omega))
    have HRK3 := Lib.hid ((HRK2.out.alloc _).below hb (by simp; omega))
    have HFK3 := Lib.hid (HFK.out.below hb (by simp))
    have HO3 := Lib.hid ((HO.out.below HFB.out (Nat.le_refl _)).below hb (Nat.le_refl _))
    have hl0 : w.heap.size < w3.heap.size := by omega
    have hl1 : w.heap.size + 1 < w3.heap.size := by omega
    have hl2 : w2.heap.size < w3.heap.size := by omega
    clear hb hr
    obtain ⟨⟨ak, acm, am, ab, aq, acs, arc⟩, ae⟩ := r
    simp only [aval] at h1 h2 ⊢
    obtain ⟨cb, cbc, rfl⟩ := BOwn_form h1
    obtain ⟨rb, rbc, rfl⟩ := BOwn_form h2
    have H3 := Lib.hid h1
    have H4 := Lib.hid h2
    clear h1 h2
    obtain ⟨n3, e3⟩ : ∃ n, n = acs.length := ⟨_, rfl⟩
    obtain ⟨n4, e4⟩ : ∃ n, n = arc.length := ⟨_, rfl⟩
    rw [← e3] at H3 ⊢
    rw [← e4] at H4 ⊢
    clear e3 e4
    by_cases hae : ae = 0
    · subst hae
      have hmt := make_told a HK.out (by rw [HID.out, HDL.out, HR.out])
      rw [HID.out, HDL.out, HR.out] at hmt
      obtain ⟨hkk, htold⟩ := hmt
      have hkk2 : ak = k := by rw [HA.out] at hkk; exact hkk
      subst hkk2
      have HBB := Lib.hid ((Below.refl w3.heap.size w3).alloc (Nat.le_refl _) (.cells #[.int .i64 ak, .int .i64 acm, .int .i64 am, .bool ab, .int .u8 (aq : Int), .slice cb n3 cbc, .slice rb n4 rbc] 50))
      have HB3B := Lib.hid (HB3.out.trans (HBB.out.mono (by omega)))
      have htl := told_any ⟨ak, c, m, b, q, cs, rc⟩ ⟨ak, acm, am, ab, aq, acs, arc⟩ _ _ _ _ _ (HW1.out _ HB3B.out) (HW2.out _ HB3B.out) (H3.out.row.below HBB.out (Nat.le_refl _)) (H4.out.row.below HBB.out (Nat.le_refl _))
      have htv : toldOf ⟨ak, c, m, b, q, cs, rc⟩ ⟨ak, acm, am, ab, aq, acs, arc⟩ = sameA ⟨ak, acm, am, ab, aq, acs, arc⟩ (plainOf a) := by rw [← HA.out]; exact htold
      rw [htv] at htl
      simp only [aval] at htl
      have HTL := Lib.hid htl
      obtain ⟨d0, d1, d2, d3, d4, d5, d6⟩ := cells7 HAK3.out
      clear htl htold hkk htv
      go_wp2_with fail
      refine HTL.out.mono ?_
      rintro e w4 ⟨rfl, hb⟩
      have hs4 : w3.heap.size + 1 ≤ w4.heap.size := by have := hb.size; simp at this; omega
      have HB4 := Lib.hid (HB3B.out.trans (hb.mono (by simp; omega)))
      clear d0 d1 d2 d3 d4 d5 d6
      have HFK4 := Lib.hid ((HFK3.out.alloc _).below hb (by simp; omega))
      have HRK4 := Lib.hid ((HRK3.out.alloc _).below hb (by simp; omega))
      have HO4 := Lib.hid ((HO3.out.below HBB.out (Nat.le_refl _)).below hb (Nat.le_refl _))
      obtain ⟨⟨f0, f1⟩, g0, g1⟩ := cells2 HFK4.out
      obtain ⟨⟨p0, p1⟩, q0, q1⟩ := cells2 HRK4.out
      clear hb
      by_cases hs : sameA ⟨ak, acm, am, ab, aq, acs, arc⟩ (plainOf a) = true
      · rw [hs]
        have HM := Lib.hid (show makeOf a = ((id, dl), 0) by
          unfold makeOf
          rw [if_pos HK.out, HID.out, HDL.out, HR.out, if_pos ⟨rfl, hs⟩])
        clear hs
        go_wp2_with fail
        clear f0 f1 g0 g1 p0 p1 q0 q1
        exact bodyPost_ret (v := .tuple #[.agg #[.int .u8 (id : Int), .slice p n cp], .int .i64 0]) (results_struct_tmp (p := 2) (q := 3) rfl _ _ (w.heap.size + 1) 40 _ _ _ rfl (Bk_fill2 HRK4.out _ _) Tryd.underlying40 rfl (by kernel_rfl)) rfl
          ⟨by rw [HM.out]; exact ⟨_, rfl, (BOwn_fill2 HO4.out (by omega) _ _).lower (by omega)⟩, below_fill2 HB4.out (by omega) _ _⟩
      · have hsf : sameA ⟨ak, acm, am, ab, aq, acs, arc⟩ (plainOf a) = false := by simpa using hs
        rw [hsf]
        have HM := Lib.hid (show makeOf a = ((0, []), 4) by
          unfold makeOf
          rw [if_pos HK.out, HID.out, HDL.out, HR.out, if_neg (fun h => hs h.2)])
        clear hs hsf
        go_wp2_with fail
        clear f0 f1 g0 g1 p0 p1 q0 q1
        exact bodyPost_ret (v := .tuple #[.agg #[.int .u8 0, .slice none 0 0], .int .i64 4]) (results_struct_tmp (p := 2) (q := 3) rfl _ _ (w.heap.size + 1) 40 _ _ _ rfl (Bk_fill2 HRK4.out _ _) Tryd.underlying40 rfl (by kernel_rfl)) rfl
          ⟨by rw [HM.out]; exact ⟨_, rfl, BOwn_nil⟩, below_fill2 HB4.out (by omega) _ _⟩
    · have hne : ((ae : Int) != 0) = true := bne_iff_ne.2 hae
      have HM := Lib.hid (show makeOf a = ((0, []), 4) by
        unfold makeOf
        rw [if_pos HK.out, HID.out, HDL.out, HR.out, if_neg (fun h => hae h.1)])
      obtain ⟨⟨p0, p1⟩, q0, q1⟩ := cells2 HRK3.out
      clear hae
      go_wp2_with fail
      clear p0 p1 q0 q1
      exact bodyPost_ret (v := .tuple #[.agg #[.int .u8 0, .slice none 0 0], .int .i64 4]) (results_struct_tmp (p := 2) (q := 3) rfl _ _ (w.heap.size + 1) 40 _ _ _ rfl ((Bk_fill2 HRK3.out _ _).alloc _) Tryd.underlying40 rfl (by kernel_rfl)) rfl
        ⟨by rw [HM.out]; exact ⟨_, rfl, BOwn_nil⟩, (below_fill2 HB3.out (by omega) _ _).alloc (by simp [World.setCell]; omega) _⟩
  · have HM := Lib.hid (show makeOf a = ((0, []), 1) by
      unfold makeOf
      rw [if_neg hk])
    obtain ⟨⟨p0, p1⟩, q0, q1⟩ := cells2 HRK2.out
    clear hk
    go_wp2_with fail
    clear p0 p1 q0 q1
    exact bodyPost_ret (v := .tuple #[.agg #[.int .u8 0, .slice none 0 0], .int .i64 1]) (results_struct_tmp (p := 2) (q := 3) rfl _ _ (w.heap.size + 1) 40 _ _ _ rfl (Bk_fill2 HRK2.out _ _) Tryd.underlying40 rfl (by kernel_rfl)) rfl
      ⟨by rw [HM.out]; exact ⟨_, rfl, BOwn_nil⟩, below_fill2 HB2.out (by omega) _ _⟩
end Go.Proofs.YtcibhchbgendaaaDoor.Sf
