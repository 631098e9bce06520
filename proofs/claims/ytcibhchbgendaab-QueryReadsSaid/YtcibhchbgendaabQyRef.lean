/- The walks of vitrineref22.replies, Parse and Number. -/
import Derived.Test.YtcibhchbgendaabQyRAll
import Derived.Test.YtcibhchbgendaabQyFind
namespace Go.Proofs.Ytcibhchbgendaab.Qy
open Go Go.RowKit Go.Shelf Go.Proofs.Ytcibhchbgendaab.By Go.Proofs.Ytcibhchbgendaab.Rg Go.Proofs.Ytcibhchbgendaab.Sf

set_option maxRecDepth 100000 in
set_option maxHeartbeats 8000000 in
theorem rreplies_any (B : Nat) (v : Value) (l : List Nat) (w : World) (hw : BOwn B w v l) (h47 : l.length ≤ 100000) :
    Calls Try.prog 66 #[v] w fun e w' => ReEnd (repliesOf l) w.heap.size e w' ∧ Below w.heap.size w w' := by
  obtain ⟨i0, hi, hz0, hz1, hz2⟩ := info_parts slice_info
  cases l with
  | nil =>
    obtain ⟨a, c, rfl⟩ := BOwn_form hw
    simp only [List.length_nil]
    have HR := Lib.hid (show repliesOf [] = ([], 2) from rfl)
    clear hw h47
    go_enter Try.func66, Try.ntmps66
    go_wp2_with fail
    go_ret2
    exact ⟨⟨_, [], by rw [HR.out]; rfl, ⟨World.ownsRow_nil _ _ _ _, by simp⟩, by rw [HR.out]; rfl⟩, Below.refl _ _⟩
  | cons x r =>
    by_cases hx : x = 136
    rotate_left
    · obtain ⟨g, cap, rfl, hc⟩ := BOwn_at hw (i := 0) (x := x) rfl
      have HR := Lib.hid (show repliesOf (x :: r) = ([], 4) by
        show (if x = 136 then _ else _) = _
        rw [if_neg hx])
      have hxq : ((x : Int) != 136) = true := bne_iff_ne.2 (by omega)
      have hg := cell_lt hc
      obtain ⟨n, hn⟩ : ∃ n, n = (x :: r).length := ⟨_, rfl⟩
      rw [← hn]
      have hn2 : (0 : Int) < (n : Int) := by rw [hn, List.length_cons]; omega
      have hn1 : ((n : Int) == 0) = false := beq_eq_false_iff_ne.2 (by omega)
      clear hw h47 hn hx
      go_enter Try.func66, Try.ntmps66
      go_wp2_with fail
      go_ret2
      exact ⟨⟨_, [], by rw [HR.out]; rfl, ⟨World.ownsRow_nil _ _ _ _, by simp⟩, by rw [HR.out]; rfl⟩, Below.refl _ _⟩
    · subst hx
      obtain ⟨g, cap, rfl, hc0⟩ := BOwn_at hw (i := 0) (x := 136) rfl
      obtain ⟨n, hn⟩ : ∃ n, n = (136 :: r).length := ⟨_, rfl⟩
      rw [← hn] at hw ⊢
      have hn' : n = r.length + 1 := by rw [hn]; rfl
      have hcap : n ≤ cap ∧ cap ≤ maxLen := BOwn_cap hw
      have hg : g < w.heap.size := cell_lt hc0
      obtain ⟨A4, hA, ⟨o', rfl⟩, hsl⟩ := slice_rest g 0 cap 1 n (by omega)
      have hwb : WB w g o' r.length (cap - 1) r := by
        refine ⟨⟨by omega, by omega, fun i x hi => ?_, fun x hx => hw.1 x (List.mem_cons_of_mem _ hx)⟩, rfl, hg⟩
        have hil := (List.getElem?_eq_some_iff.1 hi).1
        have ho : o' = 1 := by
          have := hA (by omega)
          injection this
        subst ho
        have h1 := BOwn_cell hw (i := i + 1) (x := x) (by simpa using hi)
        rw [show 1 + i = i + 1 by omega]
        exact h1
      rw [show n - 1 = r.length by omega] at hsl
      have hs1 : ∀ w : World, (Instr.slice 22 (.slice (some ⟨g, 0, none⟩) n cap) (some (.int .i64 1)) none none).run Try.prog w = .ok (.slice (some ⟨g, o', none⟩) r.length (cap - 1)) w := hsl
      have hra := rallw_any g o' (cap - 1) r w hwb (by simp at h47; omega)
      have hrn : r.length ≤ 100000 := by simp at h47; omega
      obtain ⟨m, hm⟩ : ∃ m, m = r.length := ⟨_, rfl⟩
      rw [← hm] at hs1 hra hrn
      obtain ⟨c2, hc2⟩ : ∃ c2, c2 = cap - 1 := ⟨_, rfl⟩
      rw [← hc2] at hs1 hra
      have HRA := Lib.hid hra
      have hn2 : (0 : Int) < (n : Int) := by omega
      have hn1 : ((n : Int) == 0) = false := beq_eq_false_iff_ne.2 (by omega)
      have HM := Lib.hid hm
      clear hw h47 hn hn' hcap hA hsl hwb hra hm hc2
      go_enter Try.func66, Try.ntmps66
      go_wp2_with fail
      refine HRA.out.mono ?_
      rintro e w1 ⟨⟨v1, xs, rfl, hf, hfd⟩, hb⟩
      obtain ⟨er, her⟩ : ∃ er, endOf r = er := ⟨_, rfl⟩
      rw [her]
      obtain ⟨a1, c1, rfl⟩ := row_form hf.1
      have HF := Lib.hid hf
      have HFD := Lib.hid hfd
      have HB := Lib.hid hb
      have HER := Lib.hid her
      obtain ⟨N, hN⟩ : ∃ N, N = xs.length := ⟨_, rfl⟩
      rw [← hN] at HF ⊢
      have HN := Lib.hid hN
      have hN6 : N ≤ 100000 := by
        have h1 := fieldsOf_len r
        rw [← hfd, List.length_map] at h1
        have := HM.out
        omega
      clear hf hfd hb hN hs1 her
      go_wp2_with fail
      go_loopw [6, 24] (fun vo i wr => ∃ k : Nat, k ≤ N ∧ i = .int .i64 k ∧ wr.ownsRow w1.heap.size 22 1 vo k ((xs.take k).flatMap vcell) ∧ (∀ x ∈ xs.take k, goodEl x.fd = true) ∧ Below w1.heap.size w1 wr) (fun _ i _ => N - (intOf i).toNat)
      case atStart => exact ⟨0, by omega, rfl, by simpa using World.ownsRow_nil _ _ _ _, by simp, Below.refl _ _⟩
      case round =>
        obtain ⟨k, hk, rfl, ho, hgd, hbr⟩ := hrel
        obtain ⟨ao, co, rfl⟩ := row_form ho
        have HO := Lib.hid ho
        have HGD := Lib.hid hgd
        have HBR := Lib.hid hbr
        have hsr := hbr.size
        have HFr := Lib.hid (FRow_below HF.out hbr)
        clear ho hgd hbr
        by_cases hlt : k < N
        · obtain ⟨f, hf⟩ : ∃ f, xs[k]? = some f := ⟨xs[k]'(by have := HN.out; omega), List.getElem?_eq_getElem _⟩
          obtain ⟨gf, rfl⟩ : ∃ g, a1 = some ⟨g, 0, none⟩ := by
            rcases FRow_form HFr.out with ⟨h, _⟩ | ⟨g, c, h⟩
            · injection h with _ h _; omega
            · injection h with h; exact ⟨g, h⟩
          obtain ⟨xi, xv, xl, xe⟩ := f
          have hmem := List.mem_of_getElem? hf
          have hxm : xi < 256 ∧ BOwn w.heap.size wr xv xl := HFr.out.2 _ hmem
          obtain ⟨xa, xc, rfl⟩ := BOwn_form hxm.2
          have hc := FRow_cells HFr.out hf
          obtain ⟨nl, hnl⟩ : ∃ nl, nl = xl.length := ⟨_, rfl⟩
          have c0 : wr.cell? ⟨gf, k * 2, none⟩ = some (.int .u8 (xi : Int)) := hc.1
          have c1 : wr.cell? ⟨gf, k * 2 + 1, none⟩ = some (.slice xa nl xc) := by rw [hnl]; exact hc.2
          have hfm : (xi, xl) ∈ fieldsOf r := by rw [← HFD.out]; exact List.mem_map.2 ⟨_, hmem, rfl⟩
          have HFM := Lib.hid hfm
          have HK := Lib.hid hf
          have HNL := Lib.hid hnl
          clear hc hxm hmem hf hfm hnl
          by_cases hid : xi = 129
          · subst hid
            by_cases hz : nl = 0
            · have HR := Lib.hid (re_bad HFM.out (show goodEl (129, xl) = false by
                have : xl = [] := List.length_eq_zero_iff.1 (by rw [← HNL.out]; exact hz)
                subst this
                rfl))
              subst hz
              go_wp2_with fail
              go_ret2
              exact ⟨⟨_, [], by rw [HR.out]; rfl, ⟨World.ownsRow_nil _ _ _ _, by simp⟩, by rw [HR.out]; rfl⟩, (HB.out.trans (HBR.out.mono HB.out.size)).alloc (by have := HB.out.size; omega) _⟩
            · have hzq : ((nl : Int) == 0) = false := beq_eq_false_iff_ne.2 (by omega)
              have HZ := Lib.hid hz
              clear hz
              have HCL := Lib.hid (show ∀ j u, ([.slice xa nl xc] : List Value)[j]? = some u → ((wr.alloc (.cells #[.int .u8 129, .slice xa nl xc] 140)).alloc (.cells #[.slice xa nl xc] 22)).cell? ((⟨wr.heap.size + 1, 0, none⟩ : Addr).add j) = some u by
                intro j u hu
                have h := cells_lit (wr.alloc (.cells #[.int .u8 129, .slice xa nl xc] 140)) [.slice xa nl xc] 22 j u hu
                rw [World.size_alloc] at h
                exact h)
              go_wp2_with (first | (at_builtin; refine wpList_append_own _ rfl _ _ 94 rfl w1.heap.size 22 i0 (.slice none 0 0) 1 24 Try.underlying94 hi hz0 hz1 hz2 rfl (by decide) _ _ _ rfl ((HO.out.alloc _).alloc _) ⟨wr.heap.size + 1, 0, none⟩ 1 1 [.slice xa nl xc] rfl rfl HCL.out (by intro u hu; simp at hu; subst hu; rfl) (by unfold maxLen; omega) (by omega) (by simp; omega) ?_; intro v7 w7 hown7 hgrow7 _; obtain ⟨g7, c7, rfl⟩ := ownsRow_succ hown7; have HO7 := Lib.hid hown7; have HGR7 := Lib.hid hgrow7; clear hown7 hgrow7) | fail)
              have hb7 : Below w1.heap.size w1 w7 := ((HBR.out.alloc hsr _).alloc (by simp; omega) _).grown HGR7.out (by simp; omega) (fun j hj => (HO.out.lt j hj).1)
              refine ⟨⟨k + 1, by omega, by go_num, ?_, fun x hx => ?_, hb7⟩, by simp [intOf]; omega⟩
              · rw [List.take_add_one, HK.out, List.flatMap_append]
                have h7 := HO7.out
                rw [HNL.out] at h7
                simpa [vcell] using h7
              · rw [List.take_add_one, HK.out] at hx
                rcases List.mem_append.1 hx with hx | hx
                · exact HGD.out x hx
                · simp at hx
                  subst hx
                  show goodEl (129, xl) = true
                  cases xl with
                  | nil => exact absurd HNL.out HZ.out
                  | cons => rfl
          · have hidq : ((xi : Int) != 129) = true := bne_iff_ne.2 (by omega)
            have HR := Lib.hid (re_bad HFM.out (show goodEl (xi, xl) = false by
              show (xi == 129 && _) = false
              rw [beq_eq_false_iff_ne.2 hid]
              rfl))
            clear hid
            go_wp2_with fail
            go_ret2
            exact ⟨⟨_, [], by rw [HR.out]; rfl, ⟨World.ownsRow_nil _ _ _ _, by simp⟩, by rw [HR.out]; rfl⟩, (HB.out.trans (HBR.out.mono HB.out.size)).alloc (by have := HB.out.size; omega) _⟩
        · obtain rfl : k = N := by omega
          have htk : xs.take k = xs := List.take_of_length_le (by have := HN.out; omega)
          have hgood := HGD.out
          have hown := HO.out
          rw [htk] at hgood hown
          have hall : (fieldsOf r).all goodEl = true := by
            rw [← HFD.out, List.all_map, List.all_eq_true]
            exact fun x hx => hgood x hx
          by_cases hz : er = 0
          · have HR := Lib.hid (show repliesOf (136 :: r) = (xs.map El.l, 0) by
              have h2 : (fieldsOf r).map (·.2) = xs.map El.l := by rw [← HFD.out, List.map_map]; rfl
              have he : endOf r = 0 := by rw [HER.out, hz]
              unfold repliesOf
              simp [hall, he, h2])
            have HOW := Lib.hid hown
            subst hz
            clear hgood hown hall
            go_wp2_with fail
            go_ret2
            exact ⟨⟨_, xs, by rw [HR.out]; rfl, ⟨by rw [← HN.out]; exact row_lower HOW.out HB.out.size, HFr.out.2⟩, by rw [HR.out]⟩, HB.out.trans (HBR.out.mono HB.out.size)⟩
          · have HR := Lib.hid (show repliesOf (136 :: r) = ([], er) by
              unfold repliesOf
              simp [hall, HER.out, hz])
            have hzq : ((er : Int) != 0) = true := bne_iff_ne.2 hz
            clear hgood hown hall hz
            go_wp2_with fail
            go_ret2
            exact ⟨⟨_, [], by rw [HR.out]; rfl, ⟨World.ownsRow_nil _ _ _ _, by simp⟩, by rw [HR.out]; rfl⟩, HB.out.trans (HBR.out.mono HB.out.size)⟩
set_option maxRecDepth 100000 in
set_option maxHeartbeats 8000000 in
theorem rparse_any (B : Nat) (v : Value) (l : List Nat) (w : World) (hw : BOwn B w v l) (h47 : l.length ≤ 100000) :
    Calls Try.prog 38 #[v] w fun e w' => PaEnd (parseOf l) w.heap.size e w' ∧ Below w.heap.size w w' := by
  have HWW := Lib.hid hw
  obtain ⟨hne, hll, hen, _⟩ := replies_ne l
  obtain ⟨⟨rs, er⟩, hr⟩ : ∃ r, repliesOf l = r := ⟨_, rfl⟩
  have HP := Lib.hid (show parseOf l = (rs.map (fun d => d.headD 0), er) by unfold parseOf; rw [hr])
  have hra := rreplies_any B v l w hw h47
  rw [hr] at hne hll hen hra
  have HRA := Lib.hid hra
  have HNE := Lib.hid hne
  have HEN := Lib.hid hen
  change rs.length ≤ l.length at hll
  rw [HP.out]
  clear hw hr hra hne hen
  go_enter Try.func38, Try.ntmps38
  go_wp2_with fail
  refine HRA.out.mono ?_
  rintro e w1 ⟨⟨v1, xs, rfl, hrow, hx⟩, hb⟩
  change xs.map El.l = rs at hx
  obtain ⟨a1, c1, rfl⟩ := row_form hrow.1
  have HROW := Lib.hid (show RRow w.heap.size w1 (.slice a1 xs.length c1) xs from hrow)
  have HB := Lib.hid hb
  have HX := Lib.hid hx
  obtain ⟨N, hN⟩ : ∃ N, N = xs.length := ⟨_, rfl⟩
  rw [← hN] at HROW ⊢
  have HN := Lib.hid hN
  have hN6 : N ≤ 100000 := by have h := congrArg List.length hx; rw [List.length_map] at h; omega
  clear hrow hb hx hN hll h47
  · go_wp2_with fail
    go_loopw [6, 16] (fun vo i wr => ∃ k : Nat, k ≤ N ∧ i = .int .i64 k ∧ BOwn w1.heap.size wr vo ((xs.take k).map (fun x => x.l.headD 0)) ∧ Below w1.heap.size w1 wr) (fun _ i _ => N - (intOf i).toNat)
    case atStart => exact ⟨0, by omega, rfl, by simpa using BOwn_nil, Below.refl _ _⟩
    case round =>
      obtain ⟨k, hk, rfl, ho, hbr⟩ := hrel
      obtain ⟨ao, co, rfl⟩ := BOwn_form ho
      have hkl : ((xs.take k).map (fun x => x.l.headD 0)).length = k := by rw [List.length_map, List.length_take]; have := HN.out; omega
      obtain ⟨pl, hpl⟩ : ∃ pl, (xs.take k).map (fun x => x.l.headD 0) = pl := ⟨_, rfl⟩
      rw [hpl] at ho hkl ⊢
      have HPL := Lib.hid hpl
      rw [hkl] at ho ⊢
      have HKL := Lib.hid hkl
      have HO := Lib.hid ho
      have HBR := Lib.hid hbr
      have hsz := hbr.size
      have HRR := Lib.hid (RRow_below HROW.out hbr)
      clear ho hbr hpl hkl
      by_cases hlt : k < N
      · obtain ⟨x, hx⟩ : ∃ x, xs[k]? = some x := ⟨xs[k]'(by have := HN.out; omega), List.getElem?_eq_getElem _⟩
        obtain ⟨g, rfl⟩ := RRow_some HRR.out (by have := HN.out; omega)
        have hc := RRow_cell HRR.out hx
        have hxm := HRR.out.2 x (List.mem_of_getElem? hx)
        have hxne : x.l ≠ [] := HNE.out x.l (by rw [← HX.out]; exact List.mem_map.2 ⟨x, List.mem_of_getElem? hx, rfl⟩)
        have HXK := Lib.hid hx
        obtain ⟨xi, xv, xl, xe⟩ := x
        change xl ≠ [] at hxne
        obtain ⟨d0, dr, rfl⟩ : ∃ d0 dr, xl = d0 :: dr := by
          cases xl with
          | nil => exact absurd rfl hxne
          | cons a r => exact ⟨a, r, rfl⟩
        have hxm2 : BOwn w.heap.size wr xv (d0 :: dr) := hxm.2
        obtain ⟨gd, cd, hxv, hcd⟩ := BOwn_at hxm2 (i := 0) (x := d0) rfl
        subst hxv
        have hd256 : d0 < 256 := hxm2.1 d0 (by simp)
        obtain ⟨nd, hnd⟩ : ∃ nd, nd = (d0 :: dr).length := ⟨_, rfl⟩
        change wr.cell? _ = some (.slice (some ⟨gd, 0, none⟩) (d0 :: dr).length cd) at hc
        rw [← hnd] at hc
        have hnd0 : (0 : Int) < (nd : Int) := by rw [hnd, List.length_cons]; omega
        have hzg := cell_lt hcd
        have HLIT := Lib.hid (own_lit wr [d0] (by simp) (by intro n hn; simp at hn; omega))
        have HO2 := Lib.hid (HO.out.below ((Below.refl wr.heap.size wr).alloc (Nat.le_refl _) (.cells ([d0].map bv).toArray 5)) (Nat.le_refl _))
        have HSUM := Lib.hid (show pl.length + ([d0] : List Nat).length ≤ 1000000 by rw [HKL.out]; simp; omega)
        clear hxm hxm2 hx hxne hnd
        go_wp2_with (first | (at_builtin; refine wpList_append_brow rfl _ _ rfl w1.heap.size _ pl rfl HO2.out _ [d0] rfl HLIT.out.row (by simp; omega) HSUM.out ?_; intro p5 c5 w5 hbo hgrow) | fail)
        have hb5 : Below w1.heap.size w1 w5 := (HBR.out.alloc hsz _).grown hgrow (by simp; omega) (fun j hj => (HO.out.2.lt j hj).1)
        refine ⟨⟨k + 1, by omega, by go_num, ?_, hb5⟩, by simp [intOf]; omega⟩
        have e : (xs.take (k + 1)).map (fun x => x.l.headD 0) = pl ++ [d0] := by
          rw [List.take_add_one, HXK.out, List.map_append, HPL.out]
          rfl
        rw [e]
        first | exact hbo | simpa using hbo
      · obtain rfl : k = N := by omega
        have hfin : pl = rs.map (fun d => d.headD 0) := by
          rw [← HPL.out, List.take_of_length_le (by have := HN.out; omega), ← HX.out, List.map_map]
          rfl
        subst hfin
        go_wp2_with fail
        go_ret2
        exact ⟨⟨ao, co, by rw [HKL.out]; rfl, by rw [HKL.out]; exact HO.out.lower HB.out.size⟩, HB.out.trans (HBR.out.mono HB.out.size)⟩

/-- how Number ends -/
def NbEnd (o : Option (List Nat)) (i n : Nat) (e : Ending) : Prop :=
  (∃ d, o = some d ∧ n ≤ d.length ∧ e = .returned (.int .i64 (at2 d i : Nat))) ∨ ((∀ d, o = some d → d.length < n) ∧ e = .returned (.int .i64 (-1)))

set_option maxRecDepth 100000 in
set_option maxHeartbeats 8000000 in
theorem rnumber_any (B : Nat) (v : Value) (l : List Nat) (w : World) (hw : BOwn B w v l) (h47 : l.length ≤ 100000) (c i n : Nat) (hc : c < 256) (hi : i + 1 < n) (hi1 : i ≤ 100) :
    Calls Try.prog 39 #[v, .int .u8 c, .int .i64 i, .int .i64 n] w fun e w' => NbEnd (findOf l c) i n e ∧ Below w.heap.size w w' := by
  obtain ⟨hne, hll, hen, hdl⟩ := replies_ne l
  obtain ⟨⟨rs, er⟩, hr⟩ : ∃ r, repliesOf l = r := ⟨_, rfl⟩
  have HP := Lib.hid (show findOf l c = rs.find? (fun d => d.head? == some c) by unfold findOf; rw [hr])
  have hra := rreplies_any B v l w hw h47
  rw [hr] at hne hll hra hdl
  have HRA := Lib.hid hra
  have HNE := Lib.hid hne
  have HDL := Lib.hid hdl
  change rs.length ≤ l.length at hll
  rw [HP.out]
  clear hw hr hra hne hen hdl
  go_enter Try.func39, Try.ntmps39
  go_wp2_with fail
  refine HRA.out.mono ?_
  rintro e w1 ⟨⟨v1, xs, rfl, hrow, hx⟩, hb⟩
  change xs.map El.l = rs at hx
  obtain ⟨a1, c1, rfl⟩ := row_form hrow.1
  have HROW := Lib.hid (show RRow w.heap.size w1 (.slice a1 xs.length c1) xs from hrow)
  have HB := Lib.hid hb
  have HX := Lib.hid hx
  obtain ⟨N, hN⟩ : ∃ N, N = xs.length := ⟨_, rfl⟩
  rw [← hN] at HROW ⊢
  have HN := Lib.hid hN
  have hN6 : N ≤ 100000 := by have h := congrArg List.length hx; rw [List.length_map] at h; omega
  clear hrow hb hx hN hll
  go_wp2_with fail
  go_loop [20] (fun i => ∃ k : Nat, k ≤ N ∧ i = .int .i64 k ∧ ∀ y ∈ xs.take k, ¬ (y.l.head? == some c) = true) (fun i => N - (intOf i).toNat)
  case atStart => exact ⟨0, by omega, rfl, by simp⟩
  case round =>
    obtain ⟨k, hk, rfl, hno⟩ := hrel
    have HNO := Lib.hid hno
    clear hno
    by_cases hlt : k < N
    · obtain ⟨x, hx⟩ : ∃ x, xs[k]? = some x := ⟨xs[k]'(by have := HN.out; omega), List.getElem?_eq_getElem _⟩
      obtain ⟨g, rfl⟩ := RRow_some HROW.out (by have := HN.out; omega)
      have hce := RRow_cell HROW.out hx
      have hxm := HROW.out.2 x (List.mem_of_getElem? hx)
      have hxr : x.l ∈ rs := by rw [← HX.out]; exact List.mem_map.2 ⟨x, List.mem_of_getElem? hx, rfl⟩
      have hxne : x.l ≠ [] := HNE.out x.l hxr
      have hxle : x.l.length ≤ l.length := HDL.out x.l hxr
      have HXK := Lib.hid hx
      obtain ⟨xi, xv, xl, xe⟩ := x
      change xl ≠ [] at hxne
      change xl.length ≤ _ at hxle
      obtain ⟨d0, dr, rfl⟩ : ∃ d0 dr, xl = d0 :: dr := by
        cases xl with
        | nil => exact absurd rfl hxne
        | cons a r => exact ⟨a, r, rfl⟩
      have hxm2 : BOwn w.heap.size w1 xv (d0 :: dr) := hxm.2
      obtain ⟨gd, cd, hxv, hcd⟩ := BOwn_at hxm2 (i := 0) (x := d0) rfl
      subst hxv
      obtain ⟨nd, hnd⟩ : ∃ nd, nd = (d0 :: dr).length := ⟨_, rfl⟩
      change w1.cell? _ = some (.slice (some ⟨gd, 0, none⟩) (d0 :: dr).length cd) at hce
      rw [← hnd] at hce hxm2 hxle
      have HXM := Lib.hid hxm2
      have HND := Lib.hid hnd
      have hnd0 : (0 : Int) < (nd : Int) := by rw [hnd, List.length_cons]; omega
      clear hxm hxm2 hx hxne hnd hxr
      by_cases hd : d0 = c
      · subst hd
        have hfi := find_step HXK.out HNO.out (c := d0) (by simp)
        rw [HX.out] at hfi
        change rs.find? _ = some (d0 :: dr) at hfi
        have HFI := Lib.hid hfi
        have hdq : ((d0 : Int) != (d0 : Int)) = false := bne_self_eq_false' _
        clear hfi
        by_cases hsz : nd < n
        · have hdec : decide ((nd : Int) < (n : Int)) = true := decide_eq_true (by omega)
          go_wp2_with fail
          go_ret
          exact ⟨.inr ⟨fun d hd => by rw [HFI.out] at hd; injection hd with hd; subst hd; rw [← HND.out]; exact hsz, rfl⟩, HB.out⟩
        · have hdec : decide ((nd : Int) < (n : Int)) = false := decide_eq_false (by omega)
          obtain ⟨x0, h0⟩ : ∃ x, (d0 :: dr)[i]? = some x := ⟨(d0 :: dr)[i]'(by rw [← HND.out]; omega), List.getElem?_eq_getElem _⟩
          obtain ⟨x1, h1⟩ : ∃ x, (d0 :: dr)[i + 1]? = some x := ⟨(d0 :: dr)[i + 1]'(by rw [← HND.out]; omega), List.getElem?_eq_getElem _⟩
          have e0 : (d0 :: dr).getD i 0 = x0 := by rw [List.getD_eq_getElem?_getD, h0]; rfl
          have e1 : (d0 :: dr).getD (i + 1) 0 = x1 := by rw [List.getD_eq_getElem?_getD, h1]; rfl
          have cc0 := BOwn_cell HXM.out h0
          have cc1 := BOwn_cell HXM.out h1
          have b0 : x0 < 256 := HXM.out.1 x0 (List.mem_of_getElem? h0)
          have b1 : x1 < 256 := HXM.out.1 x1 (List.mem_of_getElem? h1)
          have HAT := Lib.hid (show at2 (d0 :: dr) i = 256 * x0 + x1 by unfold at2; rw [e0, e1])
          have hi0 : (0 : Int) ≤ (i : Int) := by omega
          have hin : (i : Int) < (nd : Int) := by omega
          have hin1 : (i : Int) + 1 < (nd : Int) := by omega
          have hz := cell_lt hcd
          clear h0 h1 e0 e1
          go_wp2_with fail
          go_quiet (fail)
          go_wp2_with fail
          go_ret
          exact ⟨.inl ⟨_, HFI.out, by rw [← HND.out]; omega, by rw [HAT.out]; simp⟩, bl_drewN HB.out _⟩
      · have hdq : ((d0 : Int) != (c : Int)) = true := bne_iff_ne.2 (by omega)
        have HDD := Lib.hid hd
        clear hd
        go_wp2_with fail
        go_round
        case rel =>
          refine ⟨k + 1, by omega, by go_num, fun y hy => ?_⟩
          rw [List.take_add_one, HXK.out] at hy
          rcases List.mem_append.1 hy with hy | hy
          · exact HNO.out y hy
          · simp at hy
            subst hy
            simpa using HDD.out
        case measure => simp [intOf]; omega
    · obtain rfl : k = N := by omega
      have hfi : rs.find? (fun d => d.head? == some c) = none := by
        rw [List.find?_eq_none, ← HX.out]
        intro d hd
        obtain ⟨y, hy, rfl⟩ := List.mem_map.1 hd
        have h := HNO.out y
        rw [List.take_of_length_le (by have := HN.out; omega)] at h
        exact h hy
      have HFI := Lib.hid hfi
      clear hfi
      go_wp2_with fail
      go_ret
      exact ⟨.inr ⟨fun d hd => (by rw [HFI.out] at hd; cases hd), rfl⟩, HB.out⟩
end Go.Proofs.Ytcibhchbgendaab.Qy
