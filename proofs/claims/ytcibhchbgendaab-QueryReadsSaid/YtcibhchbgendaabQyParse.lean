/- The walks of query.replies, Parse, find, at, Size and Number. -/
import Derived.Test.YtcibhchbgendaabQyReplies
import Derived.Test.YtcibhchbgendaabQyCat
import Derived.Deep.QuietTactic
import Derived.BigQuiet
import Derived.RegionTactic
import Derived.BigRegion
namespace Go.Proofs.Ytcibhchbgendaab.Qy
open Go Go.RowKit Go.Shelf Go.Proofs.Ytcibhchbgendaab.By Go.Proofs.Ytcibhchbgendaab.Rg Go.Proofs.Ytcibhchbgendaab.Sf

set_option maxRecDepth 100000 in
set_option maxHeartbeats 8000000 in
theorem replies_any (B : Nat) (v : Value) (l : List Nat) (w : World) (hw : BOwn B w v l) (h47 : l.length ≤ 100000) :
    Calls Try.prog 61 #[v] w fun e w' => ReEnd (repliesOf l) w.heap.size e w' ∧ Below w.heap.size w w' := by
  have HB0 := Lib.hid (((Below.refl w.heap.size w).alloc (Nat.le_refl _) (.cells #[.slice none 0 0] 94)).alloc (by simp) (.cells #[.int .i64 0] 40))
  cases l with
  | nil =>
    obtain ⟨a, c, rfl⟩ := BOwn_form hw
    simp only [List.length_nil]
    have HR := Lib.hid (show repliesOf [] = ([], 2) from rfl)
    clear hw h47
    go_enter Try.func61, Try.ntmps61
    go_wp2_with fail
    exact bodyPost_ret (v := .tuple #[.slice none 0 0, .int .i64 2]) (by simp [results, Try.results61, go_sem]) rfl ⟨⟨_, [], by rw [HR.out], ⟨World.ownsRow_nil _ _ _ _, by simp⟩, by rw [HR.out]; rfl⟩, ((Below.refl w.heap.size w).alloc (Nat.le_refl _) _).alloc (by simp) _⟩
  | cons x r =>
    by_cases hx : x = 136
    · subst hx
      obtain ⟨g, cap, hv, _⟩ := BOwn_at hw (i := 0) (x := 136) rfl
      subst hv
      exact replies_more g _ cap r B w hw (by simp at h47; omega)
    · obtain ⟨g, cap, rfl, hc⟩ := BOwn_at hw (i := 0) (x := x) rfl
      have HR := Lib.hid (show repliesOf (x :: r) = ([], 4) by
        show (if x = 136 then _ else _) = _
        rw [if_neg hx])
      have hxq : ((x : Int) != 136) = true := bne_iff_ne.2 (by omega)
      have hg := cell_lt hc
      obtain ⟨n, hn⟩ : ∃ n, n = (x :: r).length := ⟨_, rfl⟩
      rw [← hn]
      have hn2 : (0 : Int) < (n : Int) := by rw [hn, List.length_cons]; omega
      have hn1 : ((n : Int) == 0) = false := beq_eq_false_iff_ne.2 (by omega)
      clear hw h47 hn hx
      go_enter Try.func61, Try.ntmps61
      go_wp2_with fail
      exact bodyPost_ret (v := .tuple #[.slice none 0 0, .int .i64 4]) (by simp [results, Try.results61, go_sem]) rfl ⟨⟨_, [], by rw [HR.out], ⟨World.ownsRow_nil _ _ _ _, by simp⟩, by rw [HR.out]; rfl⟩, ((Below.refl w.heap.size w).alloc (Nat.le_refl _) _).alloc (by simp) _⟩

theorem els_le : ∀ (f : Nat) (l : List Nat) (x : Nat × List Nat × Int), x ∈ els f l → x.2.1.length ≤ l.length
  | 0, _, x, h => by simp [els] at h
  | f + 1, l, x, h => by
    unfold els at h
    by_cases h1 : l = []
    · simp [h1] at h
    · by_cases hb : bad l
      · simp [h1, hb] at h
        subst h
        simp
      · simp only [if_neg h1, if_neg hb, List.mem_cons] at h
        rcases h with rfl | h
        · simp
          omega
        · have := els_le f _ x h
          rw [List.length_drop] at this
          omega
theorem data_le {l : List Nat} {f : Nat × List Nat} (h : f ∈ fieldsOf l) : f.2.length ≤ l.length := by
  unfold fieldsOf at h
  obtain ⟨x, hx, rfl⟩ := List.mem_map.1 h
  exact els_le _ _ x (List.mem_filter.1 hx).1
theorem replies_ne (l : List Nat) : (∀ d ∈ (repliesOf l).1, d ≠ []) ∧ (repliesOf l).1.length ≤ l.length ∧ ((repliesOf l).2 ≠ 0 → (repliesOf l).1 = []) ∧ ∀ d ∈ (repliesOf l).1, d.length ≤ l.length := by
  cases l with
  | nil => exact ⟨by simp [repliesOf], by simp [repliesOf], fun _ => rfl, by simp [repliesOf]⟩
  | cons x r =>
    by_cases hx : x = 136
    · subst hx
      by_cases hg : (fieldsOf r).all goodEl = true
      · by_cases he : endOf r = 0
        · have h : repliesOf (136 :: r) = ((fieldsOf r).map (·.2), 0) := by simp [repliesOf, hg, he]
          rw [h]
          refine ⟨fun d hd => ?_, ?_, fun h => absurd rfl h, fun d hd => ?_⟩
          · obtain ⟨f, hf, rfl⟩ := List.mem_map.1 hd
            have := List.all_eq_true.1 hg f hf
            intro h0
            simp [goodEl, h0] at this
          · have := fieldsOf_len r
            simp
            omega
          · obtain ⟨f, hf, rfl⟩ := List.mem_map.1 hd
            have := data_le hf
            simp
            omega
        · have h : repliesOf (136 :: r) = ([], endOf r) := by simp [repliesOf, hg, he]
          rw [h]
          exact ⟨by simp, by simp, fun _ => rfl, by simp⟩
      · have h : repliesOf (136 :: r) = ([], 4) := by simp [repliesOf, hg]
        rw [h]
        exact ⟨by simp, by simp, fun _ => rfl, by simp⟩
    · have h : repliesOf (x :: r) = ([], 4) := by
        show (if x = 136 then _ else _) = _
        rw [if_neg hx]
      rw [h]
      exact ⟨by simp, by simp, fun _ => rfl, by simp⟩

/-- replies in memory -/
def RRow (B : Nat) (W : World) (v : Value) (xs : List El) : Prop := W.ownsRow B 22 1 v xs.length (xs.flatMap vcell) ∧ ∀ x ∈ xs, El.G B x W
theorem RRow_below {B : Nat} {W W' : World} {v : Value} {xs : List El} (h : RRow B W v xs) (hb : Below W.heap.size W W') : RRow B W' v xs :=
  have hg : W.grownBy W' none := ⟨hb.os, hb.tape, hb.output, hb.size, fun i hi _ => hb.block i hi⟩
  ⟨row_kept h.1 hg (fun r e => by cases e), fun x hx => El.G_safe (h.2 x hx) hg (Safe.none _ _)⟩
theorem vcells : ∀ xs : List El, xs.flatMap vcell = xs.map El.v
  | [] => rfl
  | x :: xs => by
    rw [List.flatMap_cons, vcells xs]
    rfl
theorem RRow_cell {B g n cap : Nat} {W : World} {xs : List El} (h : RRow B W (.slice (some ⟨g, 0, none⟩) n cap) xs) {i : Nat} {x : El} (hi : xs[i]? = some x) : W.cell? ⟨g, i, none⟩ = some x.v := by
  have hlt := (List.getElem?_eq_some_iff.1 hi).1
  obtain ⟨hr, _⟩ := h
  have hn : n = xs.length := by
    obtain ⟨a, c, e⟩ := row_form hr
    injection e
  subst hn
  rw [hr.cellAt i (by omega), vcells, List.getElem?_map, hi]
  rfl
theorem RRow_some {B n cap : Nat} {a : Option Addr} {W : World} {xs : List El} (h : RRow B W (.slice a n cap) xs) (hn : 0 < xs.length) : ∃ g, a = some ⟨g, 0, none⟩ := by
  rcases h.1.2 with ⟨h1, h2⟩ | ⟨g, cap, cur, h1, _⟩
  · omega
  · injection h1 with h1
    exact ⟨g, h1⟩

/-- how Parse ends -/
def PaEnd (r : List Nat × Int) (B : Nat) (e : Ending) (w' : World) : Prop := ∃ p c, e = .returned (.tuple #[.slice p r.1.length c, .int .i64 r.2]) ∧ BOwn B w' (.slice p r.1.length c) r.1
set_option maxRecDepth 100000 in
set_option maxHeartbeats 8000000 in
theorem parse_any (B : Nat) (v : Value) (l : List Nat) (w : World) (hw : BOwn B w v l) (h47 : l.length ≤ 100000) :
    Calls Try.prog 33 #[v] w fun e w' => PaEnd (parseOf l) w.heap.size e w' ∧ Below w.heap.size w w' := by
  have HWW := Lib.hid hw
  obtain ⟨hne, hll, hen, _⟩ := replies_ne l
  obtain ⟨⟨rs, er⟩, hr⟩ : ∃ r, repliesOf l = r := ⟨_, rfl⟩
  have HP := Lib.hid (show parseOf l = (rs.map (fun d => d.headD 0), er) by unfold parseOf; rw [hr])
  have hra := replies_any B v l w hw h47
  rw [hr] at hne hll hen hra
  have HRA := Lib.hid hra
  have HNE := Lib.hid hne
  have HEN := Lib.hid hen
  change rs.length ≤ l.length at hll
  rw [HP.out]
  clear hw hr hra hne hen
  go_enter Try.func33, Try.ntmps33
  go_wp2_with fail
  refine HRA.out.mono ?_
  rintro e w1 ⟨⟨v1, xs, rfl, hrow, hx⟩, hb⟩
  change xs.map El.l = rs at hx
  obtain ⟨a1, c1, rfl⟩ := row_form hrow.1
  have HROW := Lib.hid (show RRow w.heap.size w1 (.slice a1 xs.length c1) xs from hrow)
  have HB := Lib.hid hb
  have HX := Lib.hid hx
  obtain ⟨N, hN⟩ : ∃ N, N = xs.length := ⟨_, rfl⟩
  rw [← hN] at HROW ⊢
  have HN := Lib.hid hN
  have hN6 : N ≤ 100000 := by have h := congrArg List.length hx; rw [List.length_map] at h; omega
  clear hrow hb hx hN hll h47
  by_cases hz : er = 0
  · subst hz
    go_wp2_with fail
    go_loopw [6, 19] (fun vo i wr => ∃ k : Nat, k ≤ N ∧ i = .int .i64 k ∧ BOwn w1.heap.size wr vo ((xs.take k).map (fun x => x.l.headD 0)) ∧ Below w1.heap.size w1 wr) (fun _ i _ => N - (intOf i).toNat)
    case atStart => exact ⟨0, by omega, rfl, by simpa using BOwn_nil, Below.refl _ _⟩
    case round =>
      obtain ⟨k, hk, rfl, ho, hbr⟩ := hrel
      obtain ⟨ao, co, rfl⟩ := BOwn_form ho
      have hkl : ((xs.take k).map (fun x => x.l.headD 0)).length = k := by rw [List.length_map, List.length_take]; have := HN.out; omega
      obtain ⟨pl, hpl⟩ : ∃ pl, (xs.take k).map (fun x => x.l.headD 0) = pl := ⟨_, rfl⟩
      rw [hpl] at ho hkl ⊢
      have HPL := Lib.hid hpl
      rw [hkl] at ho ⊢
      have HKL := Lib.hid hkl
      have HO := Lib.hid ho
      have HBR := Lib.hid hbr
      have hsz := hbr.size
      have HRR := Lib.hid (RRow_below HROW.out hbr)
      clear ho hbr hpl hkl
      by_cases hlt : k < N
      · obtain ⟨x, hx⟩ : ∃ x, xs[k]? = some x := ⟨xs[k]'(by have := HN.out; omega), List.getElem?_eq_getElem _⟩
        obtain ⟨g, rfl⟩ := RRow_some HRR.out (by have := HN.out; omega)
        have hc := RRow_cell HRR.out hx
        have hxm := HRR.out.2 x (List.mem_of_getElem? hx)
        have hxne : x.l ≠ [] := HNE.out x.l (by rw [← HX.out]; exact List.mem_map.2 ⟨x, List.mem_of_getElem? hx, rfl⟩)
        have HXK := Lib.hid hx
        obtain ⟨xi, xv, xl, xe⟩ := x
        change xl ≠ [] at hxne
        obtain ⟨d0, dr, rfl⟩ : ∃ d0 dr, xl = d0 :: dr := by
          cases xl with
          | nil => exact absurd rfl hxne
          | cons a r => exact ⟨a, r, rfl⟩
        have hxm2 : BOwn w.heap.size wr xv (d0 :: dr) := hxm.2
        obtain ⟨gd, cd, hxv, hcd⟩ := BOwn_at hxm2 (i := 0) (x := d0) rfl
        subst hxv
        have hd256 : d0 < 256 := hxm2.1 d0 (by simp)
        obtain ⟨nd, hnd⟩ : ∃ nd, nd = (d0 :: dr).length := ⟨_, rfl⟩
        change wr.cell? _ = some (.slice (some ⟨gd, 0, none⟩) (d0 :: dr).length cd) at hc
        rw [← hnd] at hc
        have hnd0 : (0 : Int) < (nd : Int) := by rw [hnd, List.length_cons]; omega
        have hzg := cell_lt hcd
        have HLIT := Lib.hid (own_lit wr [d0] (by simp) (by intro n hn; simp at hn; omega))
        have HO2 := Lib.hid (HO.out.below ((Below.refl wr.heap.size wr).alloc (Nat.le_refl _) (.cells ([d0].map bv).toArray 5)) (Nat.le_refl _))
        have HSUM := Lib.hid (show pl.length + ([d0] : List Nat).length ≤ 1000000 by rw [HKL.out]; simp; omega)
        clear hxm hxm2 hx hxne hnd
        go_wp2_with (first | (at_builtin; refine wpList_append_brow rfl _ _ rfl w1.heap.size _ pl rfl HO2.out _ [d0] rfl HLIT.out.row (by simp; omega) HSUM.out ?_; intro p5 c5 w5 hbo hgrow) | fail)
        have hb5 : Below w1.heap.size w1 w5 := (HBR.out.alloc hsz _).grown hgrow (by simp; omega) (fun j hj => (HO.out.2.lt j hj).1)
        refine ⟨⟨k + 1, by omega, by go_num, ?_, hb5⟩, by simp [intOf]; omega⟩
        have e : (xs.take (k + 1)).map (fun x => x.l.headD 0) = pl ++ [d0] := by
          rw [List.take_add_one, HXK.out, List.map_append, HPL.out]
          rfl
        rw [e]
        first | exact hbo | simpa using hbo
      · obtain rfl : k = N := by omega
        have hfin : pl = rs.map (fun d => d.headD 0) := by
          rw [← HPL.out, List.take_of_length_le (by have := HN.out; omega), ← HX.out, List.map_map]
          rfl
        subst hfin
        go_wp2_with fail
        go_ret2
        exact ⟨⟨ao, co, by rw [HKL.out]; rfl, by rw [HKL.out]; exact HO.out.lower HB.out.size⟩, HB.out.trans (HBR.out.mono HB.out.size)⟩
  · have hzq : ((er : Int) != 0) = true := bne_iff_ne.2 hz
    have hrs : rs = [] := HEN.out hz
    subst hrs
    clear hz
    go_wp2_with fail
    go_ret2
    exact ⟨⟨none, 0, rfl, BOwn_nil⟩, HB.out⟩
end Go.Proofs.Ytcibhchbgendaab.Qy
