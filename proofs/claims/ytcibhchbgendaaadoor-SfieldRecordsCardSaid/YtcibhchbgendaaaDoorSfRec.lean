/- The walks of sfield.Record and vitrineref21.Record: the bytes of a list of acts. -/
import Derived.Test.YtcibhchbgendaaaDoorSfMake
import Derived.Test.YtcibhchbgendaaaDoorSfBytes
import Derived.Test.YtcibhchbgendaaaDoorSfAwake
import Derived.Test.YtcibhchbgendaaaDoorSfRActs2
namespace Go.Proofs.YtcibhchbgendaaaDoor.Sf
open Go Go.RowKit Go.Proofs.YtcibhchbgendaaaDoor.By

/-- how Record ends: bytes, or why there are none -/
def RcEnd (r : List Nat × Int) (B : Nat) (e : Ending) (w' : World) : Prop :=
  (r.2 = 0 ∧ ∃ p c, e = .returned (.tuple #[.slice p (r.1.length + 1) c, .int .i64 0]) ∧ BOwn B w' (.slice p (r.1.length + 1) c) (243 :: r.1)) ∨
  (r.2 ≠ 0 ∧ e = .returned (.tuple #[.slice none 0 0, .int .i64 r.2]))
theorem rec_take (l : List A) (k : Nat) (a : A) (h : l[k]? = some a) (h0 : (recOf (l.take k)).2 = 0) (hm : (makeOf a).2 = 0) : recOf (l.take (k + 1)) = ((recOf (l.take k)).1 ++ bytesOf (makeOf a).1, 0) := by
  rw [List.take_add_one, h]
  exact rec_snoc_ok _ a h0 hm
theorem rec_stop (l : List A) (k : Nat) (a : A) (h : l[k]? = some a) (h0 : (recOf (l.take k)).2 = 0) (hm : (makeOf a).2 ≠ 0) : recOf l = ([], (makeOf a).2) := by
  have hk : k < l.length := (List.getElem?_eq_some_iff.1 h).1
  have h1 := List.drop_eq_getElem_cons hk
  rw [(List.getElem?_eq_some_iff.1 h).2] at h1
  have e : l = l.take k ++ a :: l.drop (k + 1) := by rw [← h1, List.take_append_drop]
  rw [e]
  exact rec_snoc_err _ a _ h0 hm

set_option maxHeartbeats 8000000 in
set_option maxRecDepth 100000 in
theorem mrec_any (B : Nat) (v : Value) (xs : List AEl) (w : World) (hv : ARow 50 B w v xs) (hs : ∀ x ∈ xs, Small x.a) (h6 : xs.length ≤ 6) (hc : Cmds w) :
    Calls Tryd.prog 32 #[v] w fun e w' => RcEnd (recOf (xs.map AEl.a)) w.heap.size e w' ∧ Below w.heap.size w w' := by
  obtain ⟨a1, c1, rfl⟩ := row_form hv.1
  have HV := Lib.hid hv
  have HS := Lib.hid hs
  obtain ⟨N, hN⟩ : ∃ N, N = xs.length := ⟨_, rfl⟩
  rw [← hN] at HV h6 ⊢
  have HN := Lib.hid hN
  have HC := Lib.hid hc
  clear hc
  have HLIT := Lib.hid (own_lit w [243] (by decide) (by decide))
  have HB0 := Lib.hid ((Below.refl w.heap.size w).alloc (Nat.le_refl _) (.cells ([243].map bv).toArray 5))
  clear hv hs hN
  go_enter Tryd.func32, Tryd.ntmps32
  go_wp2_with fail
  go_loopw [4, 5, 14] (fun vo lo i wr => ∃ k : Nat, k ≤ N ∧ i = .int .i64 k ∧ lo = .bool false ∧ (recOf ((xs.map AEl.a).take k)).2 = 0 ∧ BOwn w.heap.size wr vo (243 :: (recOf ((xs.map AEl.a).take k)).1) ∧ Below w.heap.size w wr) (fun _ _ i _ => N - (intOf i).toNat)
  case atStart => exact ⟨0, by omega, rfl, rfl, rfl, HLIT.out, HB0.out⟩
  case round =>
    obtain ⟨k, hk, rfl, rfl, hr0, ho, hb⟩ := hrel
    obtain ⟨ao, co, rfl⟩ := BOwn_form ho
    have hsz := hb.size
    have hrl := rec_len ((xs.map AEl.a).take k) (fun a ha => by
      obtain ⟨x, hx, rfl⟩ := List.mem_map.1 (List.mem_of_mem_take ha)
      exact HS.out x hx)
    have hkl : ((xs.map AEl.a).take k).length ≤ 6 := by rw [List.length_take, List.length_map]; omega
    obtain ⟨rl, hrr⟩ : ∃ rl, (recOf ((xs.map AEl.a).take k)).1 = rl := ⟨_, rfl⟩
    rw [hrr] at ho hrl ⊢
    obtain ⟨s, hs⟩ : ∃ s, s = (243 :: rl).length := ⟨_, rfl⟩
    rw [← hs] at ho ⊢
    have hs2 : s ≤ 1825 := by rw [hs, List.length_cons]; omega
    have HO := Lib.hid ho
    have HB := Lib.hid hb
    have HR0 := Lib.hid hr0
    have HRR := Lib.hid hrr
    have HSS := Lib.hid hs
    have HVr := Lib.hid (ARow_below HV.out (show Below w.heap.size w wr from hb))
    clear ho hb hr0 hrr hs hrl hkl
    by_cases hlt : k < N
    · obtain ⟨x, hx⟩ : ∃ x, xs[k]? = some x := ⟨xs[k]'(by have := HN.out; omega), List.getElem?_eq_getElem _⟩
      obtain ⟨g, rfl⟩ : ∃ g, a1 = some ⟨g, 0, none⟩ := by
        rcases HVr.out.1.2 with ⟨h, h2⟩ | ⟨g, cap, cur, h, _⟩
        · have := HN.out; omega
        · injection h with h; exact ⟨g, h⟩
      have d0 := ARow_cell HVr.out hx (j := 0) (by decide)
      have d1 := ARow_cell HVr.out hx (j := 1) (by decide)
      have d2 := ARow_cell HVr.out hx (j := 2) (by decide)
      have d3 := ARow_cell HVr.out hx (j := 3) (by decide)
      have d4 := ARow_cell HVr.out hx (j := 4) (by decide)
      have d5 := ARow_cell HVr.out hx (j := 5) (by decide)
      have d6 := ARow_cell HVr.out hx (j := 6) (by decide)
      have hxG := HVr.out.2 x (List.mem_of_getElem? hx)
      have hsx := HS.out x (List.mem_of_getElem? hx)
      have hax : (xs.map AEl.a)[k]? = some x.a := by rw [List.getElem?_map, hx]; rfl
      obtain ⟨⟨pk, pc, pm, pb, pq, pcs, prc⟩, pv, pu⟩ := x
      simp only [AEl.cells, List.getElem?_cons_zero, List.getElem?_cons_succ, Nat.add_zero] at d0 d1 d2 d3 d4 d5 d6
      change (xs.map AEl.a)[k]? = some ⟨pk, pc, pm, pb, pq, pcs, prc⟩ at hax
      change Small ⟨pk, pc, pm, pb, pq, pcs, prc⟩ at hsx
      obtain ⟨pa1, pc1, hp1⟩ := BOwn_form (show BOwn B wr pv pcs from hxG.1)
      obtain ⟨pa2, pc2, hp2⟩ := BOwn_form (show BOwn B wr pu prc from hxG.2)
      subst hp1 hp2
      obtain ⟨m1, hm1⟩ : ∃ m1, m1 = pcs.length := ⟨_, rfl⟩
      obtain ⟨m2, hm2⟩ : ∃ m2, m2 = prc.length := ⟨_, rfl⟩
      rw [← hm1] at hxG d5
      rw [← hm2] at hxG d6
      have HSX := Lib.hid hsx
      have HAX := Lib.hid hax
      have HG := Lib.hid (show BOwn B wr (.slice pa1 m1 pc1) pcs ∧ BOwn B wr (.slice pa2 m2 pc2) prc from hxG)
      have HBB := Lib.hid ((Below.refl wr.heap.size wr).alloc (Nat.le_refl _) (.cells #[.int .i64 pk, .int .i64 pc, .int .i64 pm, .bool pb, .int .u8 (pq : Int), .slice pa1 m1 pc1, .slice pa2 m2 pc2] 50))
      obtain ⟨⟨⟨id, dl⟩, er⟩, hmk⟩ : ∃ r, makeOf ⟨pk, pc, pm, pb, pq, pcs, prc⟩ = r := ⟨_, rfl⟩
      have hdl : dl.length ≤ 301 := by have := make_len _ hsx; rw [hmk] at this; exact this
      have hid8 : id < 256 := by have := make_id ⟨pk, pc, pm, pb, pq, pcs, prc⟩; rw [hmk] at this; exact this
      have HMK := Lib.hid hmk
      have hmf := mfield_any ⟨pk, pc, pm, pb, pq, pcs, prc⟩ B (.slice pa1 m1 pc1) (.slice pa2 m2 pc2) _ HSX.out.1 (HG.out.1.below HBB.out (Nat.le_refl _)) (HG.out.2.below HBB.out (Nat.le_refl _)) (by have := HSX.out.2.1; show pcs.length ≤ 1000; change pcs.length ≤ 20 at this; omega) (by have := HSX.out.2.2; show prc.length ≤ 1000; change prc.length ≤ 300 at this; omega) (HC.out.below (HB.out.trans (HBB.out.mono hsz)) HC.out.lt)
      rw [hmk] at hmf
      have HMF := Lib.hid hmf
      clear hx hxG hsx hax hmk hmf hm1 hm2
      go_wp2_with fail
      refine HMF.out.mono ?_
      rintro e w2 ⟨⟨v2, rfl, hd⟩, hb2⟩
      change BOwn _ w2 v2 dl at hd
      obtain ⟨p2, c2, rfl⟩ := BOwn_form hd
      obtain ⟨nd, hnd⟩ : ∃ nd, nd = dl.length := ⟨_, rfl⟩
      rw [← hnd] at hd ⊢
      have HND := Lib.hid hnd
      have HD := Lib.hid hd
      have HB2 := Lib.hid ((HB.out.trans (HBB.out.mono hsz)).trans (hb2.mono (by simp; omega)))
      have HO2 := Lib.hid ((HO.out.below HBB.out (Nat.le_refl _)).below hb2 (Nat.le_refl _))
      have hsw2 : wr.heap.size + 1 ≤ w2.heap.size := by have := hb2.size; simp at this; omega
      clear hd hb2 hnd d0 d1 d2 d3 d4 d5 d6
      by_cases hz : er = 0
      · subst hz
        have hfb := mbytes_any id hid8 _ _ dl (w2.alloc (.cells #[.int .u8 (id : Int), .slice p2 nd c2] 40)) (HD.out.below ((Below.refl w2.heap.size w2).alloc (Nat.le_refl _) _) (Nat.le_refl _)) (by omega)
        rw [if_neg (by omega), if_neg (by omega)] at hfb
        have HFB := Lib.hid hfb
        clear hfb
        go_wp2_with fail
        refine HFB.out.mono ?_
        rintro e w3 ⟨⟨v3, rfl, h3⟩, hb3⟩
        obtain ⟨bl, hbl⟩ : ∃ bl, bytesOf (id, dl) = bl := ⟨_, rfl⟩
        rw [hbl] at h3
        have hbn : bl.length ≤ 304 := by rw [← hbl, bytes_len]; show 3 + dl.length ≤ 304; omega
        obtain ⟨p3, c3, rfl⟩ := BOwn_form h3
        obtain ⟨nb, hnb⟩ : ∃ nb, nb = bl.length := ⟨_, rfl⟩
        rw [← hnb] at h3 hbn ⊢
        have HBL := Lib.hid hbl
        have H3 := Lib.hid h3
        have HNB := Lib.hid hnb
        have HA2 := Lib.hid ((Below.refl w2.heap.size w2).alloc (Nat.le_refl _) (.cells #[.int .u8 (id : Int), .slice p2 nd c2] 40))
        have HB3 := Lib.hid ((HB2.out.trans (HA2.out.mono (by omega))).trans (hb3.mono (by simp; omega)))
        have HO3 := Lib.hid ((HO2.out.below HA2.out (Nat.le_refl _)).below hb3 (Nat.le_refl _))
        have hsw3 : w.heap.size ≤ w3.heap.size := HB3.out.size
        have HSUM := Lib.hid (show (243 :: rl).length + bl.length ≤ 1000000 by rw [← HSS.out, ← HNB.out]; omega)
        have hstep := rec_take (xs.map AEl.a) k _ HAX.out HR0.out (by rw [HMK.out])
        rw [HRR.out, HMK.out] at hstep
        have HST := Lib.hid (show recOf ((xs.map AEl.a).take (k + 1)) = (rl ++ bl, 0) by rw [hstep, ← hbl])
        clear h3 hb3 hbl hnb hstep
        go_wp2_with (first | (at_builtin; refine wpList_append_brow rfl _ _ rfl w.heap.size _ (243 :: rl) rfl HO3.out _ bl rfl H3.out.row hsw3 HSUM.out ?_; intro p5 c5 w5 hbo hgrow) | fail)
        have hb5 : Below w.heap.size w w5 := HB3.out.grown hgrow hsw3 (fun j hj => (HO3.out.2.lt j hj).1)
        refine ⟨⟨k + 1, by omega, by go_num, rfl, by rw [HST.out], ?_, hb5⟩, by simp [intOf]; omega⟩
        rw [HST.out]
        first | exact hbo | simpa using hbo
      · have hzq : ((er : Int) != 0) = true := bne_iff_ne.2 hz
        have hstop := rec_stop (xs.map AEl.a) k _ HAX.out HR0.out (by rw [HMK.out]; exact hz)
        rw [HMK.out] at hstop
        have HST := Lib.hid hstop
        have HZ := Lib.hid hz
        clear hz hstop
        go_wp2_with fail
        go_ret2
        exact ⟨.inr ⟨by rw [HST.out]; exact HZ.out, by rw [HST.out]; rfl⟩, HB2.out.alloc (by omega) _⟩
    · obtain rfl : k = N := by omega
      have htk : (xs.map AEl.a).take k = xs.map AEl.a := List.take_of_length_le (by rw [List.length_map]; have := HN.out; omega)
      have hr0 := HR0.out
      have hrr := HRR.out
      rw [htk] at hr0 hrr
      have hd : decide ((8192 : Int) < (s : Int)) = false := decide_eq_false (by omega)
      have HF := Lib.hid (And.intro hr0 hrr)
      clear hr0 hrr
      go_wp2_with fail
      go_ret2
      exact ⟨.inl ⟨HF.out.1, ao, co, by rw [HF.out.2, show rl.length + 1 = s from HSS.out.symm]; rfl, by rw [HF.out.2, show rl.length + 1 = s from HSS.out.symm]; exact HO.out⟩, HB.out⟩

set_option maxHeartbeats 8000000 in
set_option maxRecDepth 100000 in
theorem rrec_any (B : Nat) (v : Value) (xs : List AEl) (w : World) (hv : ARow 26 B w v xs) (hs : ∀ x ∈ xs, Small x.a) (h6 : xs.length ≤ 6) :
    Calls Tryd.prog 11 #[v] w fun e w' => RcEnd (recOf (xs.map AEl.a)) w.heap.size e w' ∧ Below w.heap.size w w' := by
  obtain ⟨a1, c1, rfl⟩ := row_form hv.1
  have HV := Lib.hid hv
  have HS := Lib.hid hs
  obtain ⟨N, hN⟩ : ∃ N, N = xs.length := ⟨_, rfl⟩
  rw [← hN] at HV h6 ⊢
  have HN := Lib.hid hN
  have HLIT := Lib.hid (own_lit w [243] (by decide) (by decide))
  have HB0 := Lib.hid ((Below.refl w.heap.size w).alloc (Nat.le_refl _) (.cells ([243].map bv).toArray 5))
  clear hv hs hN
  go_enter Tryd.func11, Tryd.ntmps11
  go_wp2_with fail
  go_loopw [4, 5, 14] (fun vo lo i wr => ∃ k : Nat, k ≤ N ∧ i = .int .i64 k ∧ lo = .bool false ∧ (recOf ((xs.map AEl.a).take k)).2 = 0 ∧ BOwn w.heap.size wr vo (243 :: (recOf ((xs.map AEl.a).take k)).1) ∧ Below w.heap.size w wr) (fun _ _ i _ => N - (intOf i).toNat)
  case atStart => exact ⟨0, by omega, rfl, rfl, rfl, HLIT.out, HB0.out⟩
  case round =>
    obtain ⟨k, hk, rfl, rfl, hr0, ho, hb⟩ := hrel
    obtain ⟨ao, co, rfl⟩ := BOwn_form ho
    have hsz := hb.size
    have hrl := rec_len ((xs.map AEl.a).take k) (fun a ha => by
      obtain ⟨x, hx, rfl⟩ := List.mem_map.1 (List.mem_of_mem_take ha)
      exact HS.out x hx)
    have hkl : ((xs.map AEl.a).take k).length ≤ 6 := by rw [List.length_take, List.length_map]; omega
    obtain ⟨rl, hrr⟩ : ∃ rl, (recOf ((xs.map AEl.a).take k)).1 = rl := ⟨_, rfl⟩
    rw [hrr] at ho hrl ⊢
    obtain ⟨s, hs⟩ : ∃ s, s = (243 :: rl).length := ⟨_, rfl⟩
    rw [← hs] at ho ⊢
    have hs2 : s ≤ 1825 := by rw [hs, List.length_cons]; omega
    have HO := Lib.hid ho
    have HB := Lib.hid hb
    have HR0 := Lib.hid hr0
    have HRR := Lib.hid hrr
    have HSS := Lib.hid hs
    have HVr := Lib.hid (ARow_below HV.out (show Below w.heap.size w wr from hb))
    clear ho hb hr0 hrr hs hrl hkl
    by_cases hlt : k < N
    · obtain ⟨x, hx⟩ : ∃ x, xs[k]? = some x := ⟨xs[k]'(by have := HN.out; omega), List.getElem?_eq_getElem _⟩
      obtain ⟨g, rfl⟩ : ∃ g, a1 = some ⟨g, 0, none⟩ := by
        rcases HVr.out.1.2 with ⟨h, h2⟩ | ⟨g, cap, cur, h, _⟩
        · have := HN.out; omega
        · injection h with h; exact ⟨g, h⟩
      have d0 := ARow_cell HVr.out hx (j := 0) (by decide)
      have d1 := ARow_cell HVr.out hx (j := 1) (by decide)
      have d2 := ARow_cell HVr.out hx (j := 2) (by decide)
      have d3 := ARow_cell HVr.out hx (j := 3) (by decide)
      have d4 := ARow_cell HVr.out hx (j := 4) (by decide)
      have d5 := ARow_cell HVr.out hx (j := 5) (by decide)
      have d6 := ARow_cell HVr.out hx (j := 6) (by decide)
      have hxG := HVr.out.2 x (List.mem_of_getElem? hx)
      have hsx := HS.out x (List.mem_of_getElem? hx)
      have hax : (xs.map AEl.a)[k]? = some x.a := by rw [List.getElem?_map, hx]; rfl
      obtain ⟨⟨pk, pc, pm, pb, pq, pcs, prc⟩, pv, pu⟩ := x
      simp only [AEl.cells, List.getElem?_cons_zero, List.getElem?_cons_succ, Nat.add_zero] at d0 d1 d2 d3 d4 d5 d6
      change (xs.map AEl.a)[k]? = some ⟨pk, pc, pm, pb, pq, pcs, prc⟩ at hax
      change Small ⟨pk, pc, pm, pb, pq, pcs, prc⟩ at hsx
      obtain ⟨pa1, pc1, hp1⟩ := BOwn_form (show BOwn B wr pv pcs from hxG.1)
      obtain ⟨pa2, pc2, hp2⟩ := BOwn_form (show BOwn B wr pu prc from hxG.2)
      subst hp1 hp2
      obtain ⟨m1, hm1⟩ : ∃ m1, m1 = pcs.length := ⟨_, rfl⟩
      obtain ⟨m2, hm2⟩ : ∃ m2, m2 = prc.length := ⟨_, rfl⟩
      rw [← hm1] at hxG d5
      rw [← hm2] at hxG d6
      have HSX := Lib.hid hsx
      have HAX := Lib.hid hax
      have HG := Lib.hid (show BOwn B wr (.slice pa1 m1 pc1) pcs ∧ BOwn B wr (.slice pa2 m2 pc2) prc from hxG)
      have HBB := Lib.hid ((Below.refl wr.heap.size wr).alloc (Nat.le_refl _) (.cells #[.int .i64 pk, .int .i64 pc, .int .i64 pm, .bool pb, .int .u8 (pq : Int), .slice pa1 m1 pc1, .slice pa2 m2 pc2] 26))
      obtain ⟨⟨⟨id, dl⟩, er⟩, hmk⟩ : ∃ r, makeOf ⟨pk, pc, pm, pb, pq, pcs, prc⟩ = r := ⟨_, rfl⟩
      have hdl : dl.length ≤ 301 := by have := make_len _ hsx; rw [hmk] at this; exact this
      have hid8 : id < 256 := by have := make_id ⟨pk, pc, pm, pb, pq, pcs, prc⟩; rw [hmk] at this; exact this
      have HMK := Lib.hid hmk
      have hmf := rmake_any ⟨pk, pc, pm, pb, pq, pcs, prc⟩ (.slice pa1 m1 pc1) (.slice pa2 m2 pc2) _ HSX.out.1 (HG.out.1.below HBB.out (Nat.le_refl _)).row (HG.out.2.below HBB.out (Nat.le_refl _)).row (by have := HSX.out.2.1; show pcs.length ≤ 1000; change pcs.length ≤ 20 at this; omega) (by have := HSX.out.2.2; show prc.length ≤ 1000; change prc.length ≤ 300 at this; omega)
      rw [hmk] at hmf
      have HMF := Lib.hid hmf
      clear hx hxG hsx hax hmk hmf hm1 hm2
      go_wp2_with fail
      refine HMF.out.mono ?_
      rintro e w2 ⟨⟨v2, rfl, hd⟩, hb2⟩
      change BOwn _ w2 v2 dl at hd
      obtain ⟨p2, c2, rfl⟩ := BOwn_form hd
      obtain ⟨nd, hnd⟩ : ∃ nd, nd = dl.length := ⟨_, rfl⟩
      rw [← hnd] at hd ⊢
      have HND := Lib.hid hnd
      have HD := Lib.hid hd
      have HB2 := Lib.hid ((HB.out.trans (HBB.out.mono hsz)).trans (hb2.mono (by simp; omega)))
      have HO2 := Lib.hid ((HO.out.below HBB.out (Nat.le_refl _)).below hb2 (Nat.le_refl _))
      have hsw2 : wr.heap.size + 1 ≤ w2.heap.size := by have := hb2.size; simp at this; omega
      clear hd hb2 hnd d0 d1 d2 d3 d4 d5 d6
      by_cases hz : er = 0
      · subst hz
        have hfb := rbytes_any id hid8 _ _ dl (w2.alloc (.cells #[.int .u8 (id : Int), .slice p2 nd c2] 43)) (HD.out.below ((Below.refl w2.heap.size w2).alloc (Nat.le_refl _) _) (Nat.le_refl _)) (by omega)
        rw [if_neg (by omega), if_neg (by omega)] at hfb
        have HFB := Lib.hid hfb
        clear hfb
        go_wp2_with fail
        refine HFB.out.mono ?_
        rintro e w3 ⟨⟨v3, rfl, h3⟩, hb3⟩
        obtain ⟨bl, hbl⟩ : ∃ bl, bytesOf (id, dl) = bl := ⟨_, rfl⟩
        rw [hbl] at h3
        have hbn : bl.length ≤ 304 := by rw [← hbl, bytes_len]; show 3 + dl.length ≤ 304; omega
        obtain ⟨p3, c3, rfl⟩ := BOwn_form h3
        obtain ⟨nb, hnb⟩ : ∃ nb, nb = bl.length := ⟨_, rfl⟩
        rw [← hnb] at h3 hbn ⊢
        have HBL := Lib.hid hbl
        have H3 := Lib.hid h3
        have HNB := Lib.hid hnb
        have HA2 := Lib.hid ((Below.refl w2.heap.size w2).alloc (Nat.le_refl _) (.cells #[.int .u8 (id : Int), .slice p2 nd c2] 43))
        have HB3 := Lib.hid ((HB2.out.trans (HA2.out.mono (by omega))).trans (hb3.mono (by simp; omega)))
        have HO3 := Lib.hid ((HO2.out.below HA2.out (Nat.le_refl _)).below hb3 (Nat.le_refl _))
        have hsw3 : w.heap.size ≤ w3.heap.size := HB3.out.size
        have HSUM := Lib.hid (show (243 :: rl).length + bl.length ≤ 1000000 by rw [← HSS.out, ← HNB.out]; omega)
        have hstep := rec_take (xs.map AEl.a) k _ HAX.out HR0.out (by rw [HMK.out])
        rw [HRR.out, HMK.out] at hstep
        have HST := Lib.hid (show recOf ((xs.map AEl.a).take (k + 1)) = (rl ++ bl, 0) by rw [hstep, ← hbl])
        clear h3 hb3 hbl hnb hstep
        go_wp2_with (first | (at_builtin; refine wpList_append_brow rfl _ _ rfl w.heap.size _ (243 :: rl) rfl HO3.out _ bl rfl H3.out.row hsw3 HSUM.out ?_; intro p5 c5 w5 hbo hgrow) | fail)
        have hb5 : Below w.heap.size w w5 := HB3.out.grown hgrow hsw3 (fun j hj => (HO3.out.2.lt j hj).1)
        refine ⟨⟨k + 1, by omega, by go_num, rfl, by rw [HST.out], ?_, hb5⟩, by simp [intOf]; omega⟩
        rw [HST.out]
        first | exact hbo | simpa using hbo
      · have hzq : ((er : Int) != 0) = true := bne_iff_ne.2 hz
        have hstop := rec_stop (xs.map AEl.a) k _ HAX.out HR0.out (by rw [HMK.out]; exact hz)
        rw [HMK.out] at hstop
        have HST := Lib.hid hstop
        have HZ := Lib.hid hz
        clear hz hstop
        go_wp2_with fail
        go_ret2
        exact ⟨.inr ⟨by rw [HST.out]; exact HZ.out, by rw [HST.out]; rfl⟩, HB2.out.alloc (by omega) _⟩
    · obtain rfl : k = N := by omega
      have htk : (xs.map AEl.a).take k = xs.map AEl.a := List.take_of_length_le (by rw [List.length_map]; have := HN.out; omega)
      have hr0 := HR0.out
      have hrr := HRR.out
      rw [htk] at hr0 hrr
      have hd : decide ((8192 : Int) < (s : Int)) = false := decide_eq_false (by omega)
      have HF := Lib.hid (And.intro hr0 hrr)
      clear hr0 hrr
      go_wp2_with fail
      go_ret2
      exact ⟨.inl ⟨HF.out.1, ao, co, by rw [HF.out.2, show rl.length + 1 = s from HSS.out.symm]; rfl, by rw [HF.out.2, show rl.length + 1 = s from HSS.out.symm]; exact HO.out⟩, HB.out⟩

end Go.Proofs.YtcibhchbgendaaaDoor.Sf
