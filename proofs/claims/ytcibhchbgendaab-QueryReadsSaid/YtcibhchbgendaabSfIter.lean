/- The iterator of sfield.Fields: its contract. -/
import Derived.Test.YtcibhchbgendaabSfPure
import Derived.Test.YtcibhchbgendaabSfLs
import Derived.Test.YtcibhchbgendaabShelf
import Derived.Shelf.Abstract
import Derived.Shelf.RegionOpen
import Derived.RangeFuncBox
import Derived.WalkKit
import Derived.OwnWalkIn
import Derived.TacticsInMore
import Derived.LoopNIn
import Derived.LoopIn
import Derived.Deep.QuietTactic
import Derived.BigQuiet
import Derived.Laws.BitsAllLaws
import Derived.Lib.QuoteBits
namespace Go.Proofs.Ytcibhchbgendaab.Sf
open Go Go.RowKit Go.Shelf Go.Proofs.Ytcibhchbgendaab.By Go.Proofs.Ytcibhchbgendaab.Rg
attribute [local go_sem] Oper.semAt_some

/-- there is none -/
def eErr : El := ⟨0, .slice none 0 0, [], 2⟩

/-- a window of bytes -/
def Win (W : World) (b off cap : Nat) (l : List Nat) : Prop := l.length ≤ cap ∧ cap ≤ maxLen ∧ (∀ i n, l[i]? = some n → W.cell? ⟨b, off + i, none⟩ = some (bv n)) ∧ ∀ n ∈ l, n < 256
theorem Win.row {W : World} {b off cap : Nat} {l : List Nat} (h : Win W b off cap l) : BRow W (.slice (some ⟨b, off, none⟩) l.length cap) l :=
  .inr ⟨_, cap, rfl, h.1, h.2.1, fun i n hi => by rw [addr_add0]; exact h.2.2.1 i n hi, h.2.2.2⟩
theorem Win.keep {W W' : World} {b off cap : Nat} {l : List Nat} (h : Win W b off cap l) (hk : W'.heap[b]? = W.heap[b]?) : Win W' b off cap l :=
  ⟨h.1, h.2.1, fun i n hi => (cell_of_block (p := ⟨b, off + i, none⟩) hk).trans (h.2.2.1 i n hi), h.2.2.2⟩
theorem Win.drop {W : World} {b off cap : Nat} {l : List Nat} (h : Win W b off cap l) (n : Nat) (hn : n ≤ l.length) : Win W b (off + n) (cap - n) (l.drop n) :=
  ⟨by rw [List.length_drop]; have := h.1; omega, by have := h.2.1; omega, fun i m hi => by
    rw [List.getElem?_drop] at hi
    rw [Nat.add_assoc]
    exact h.2.2.1 _ _ hi, fun m hm => h.2.2.2 m (List.mem_of_mem_drop hm)⟩
theorem Win.sub {W : World} {b off cap : Nat} {l : List Nat} (h : Win W b off cap l) (i n : Nat) (hi : i ≤ n) (hn : n ≤ l.length) : Win W b (off + i) (cap - i) ((l.take n).drop i) := by
  have h1 : Win W b off cap (l.take n) := ⟨by rw [List.length_take]; have := h.1; omega, h.2.1, fun j m hj => h.2.2.1 j m (by
    rw [List.getElem?_take] at hj
    split at hj
    · exact hj
    · cases hj), fun m hm => h.2.2.2 m (List.mem_of_mem_take hm)⟩
  exact h1.drop i (by rw [List.length_take]; omega)

theorem clone_any (v : Value) (l : List Nat) (w : World) (hv : BRow w v l) (h47 : l.length ≤ 140737488351232) :
    Calls Try.prog 88 #[v] w fun e w' => ∃ v', e = .returned v' ∧ BOwn w.heap.size w' v' l ∧ (v' = .slice none 0 0 ↔ v = .slice none 0 0) ∧ Below w.heap.size w w' := by
  have hb := hv.bound
  rcases hv with ⟨rfl, rfl⟩ | ⟨a, cap, rfl, h2, h3, h4, h5⟩
  · refine (Try.bytes_Clone_nil 0 0 w).mono ?_
    rintro e w' ⟨rfl, rfl⟩
    exact ⟨_, rfl, ⟨by simp, by simp, .inl ⟨rfl, rfl⟩⟩, by simp, Below.refl _ _⟩
  · refine (Try.bytes_Clone_at a l.length cap (l.map Int.ofNat) w (by simp) (by omega) ?_).mono ?_
    · intro i hi
      rw [h4 i l[i] (List.getElem?_eq_getElem hi)]
      simp [bv, List.getD_eq_getElem?_getD, List.getElem?_eq_getElem hi]
    · rintro e w' ⟨v', rfl, ho, hne, hbel⟩
      refine ⟨v', rfl, ⟨hb, ?_⟩, by simp [hne], hbel⟩
      have e : (l.map Int.ofNat).map (Value.int .u8) = l.map bv := by rw [List.map_map]; rfl
      rw [e] at ho
      exact ho

theorem or_word (a b : Nat) (ha : a < 256) (hb : b < 256) : bits .or .i64 ((a : Int) * 256) (b : Int) = ((256 * a + b : Nat) : Int) := by
  have e : ((a : Int) * 256) = ((256 * a : Nat) : Int) := by omega
  rw [e]
  show IntKind.i64.wrap ((BitVec.ofInt 64 ((256 * a : Nat) : Int) ||| BitVec.ofInt 64 (b : Int)).toNat : Int) = _
  rw [BitVec.toNat_or, ofInt_u64 (256 * a) (by omega), ofInt_u64 b (by omega)]
  have h := Nat.two_pow_add_eq_or_of_lt (i := 8) (b := b) (by omega) a
  have h2 : 256 * a ||| b = 256 * a + b := by
    have e8 : (2 : Nat) ^ 8 = 256 := by decide
    rw [e8] at h
    omega
  rw [h2]
  exact Lib.wrap_i64_small _ (by omega)
theorem or_word0 (b : Nat) (hb : b < 256) : bits .or .i64 0 (b : Int) = (b : Int) := by
  have h := or_word 0 b (by decide) hb
  simpa using h

theorem ybool {e : Ending} {P Q : Prop} (h : (e = .returned (.bool true) ∧ P) ∨ (e = .returned (.bool false) ∧ Q)) : ∃ b, e = .returned (.bool b) ∧ ((b = true ∧ P) ∨ (b = false ∧ Q)) := by
  rcases h with ⟨rfl, h⟩ | ⟨rfl, h⟩
  · exact ⟨true, rfl, .inl ⟨rfl, h⟩⟩
  · exact ⟨false, rfl, .inr ⟨rfl, h⟩⟩
theorem Boxed_set {W : World} {q : Nat} {t : TypeId} {v : Value} (h : Boxed W q t v) (u : Value) : Boxed (W.setCell ⟨q, 0, none⟩ u) q t u := Bk.set h 0 u
theorem gb_drewN_none (W : World) (n : Nat) : W.grownBy (W.drewN n) none := ⟨rfl, rfl, rfl, Nat.le_refl _, fun _ _ _ => rfl⟩
theorem gb_drew_none (W : World) : W.grownBy W.drew none := ⟨rfl, rfl, rfl, Nat.le_refl _, fun _ _ _ => rfl⟩
/-- what is left behind a part -/
theorem Win.rest {W : World} {b o c : Nat} {l : List Nat} (hw : Win W b o c l) (h : Nat) (hl : h ≤ l.length) {A4 : Addr} (hA : c ≠ h → A4 = ⟨b, o + h, none⟩) (hB : ∃ o', A4 = ⟨b, o', none⟩) :
    ∃ o', A4 = ⟨b, o', none⟩ ∧ Win W b o' (c - h) (l.drop h) := by
  by_cases e : c = h
  · obtain ⟨o', h'⟩ := hB
    refine ⟨o', h', ?_⟩
    have h1 := hw.1
    have hd : l.drop h = [] := List.length_eq_zero_iff.1 (by rw [List.length_drop]; omega)
    rw [hd]
    exact ⟨by simp, by have := hw.2.1; omega, by simp, by simp⟩
  · exact ⟨o + h, hA e, hw.drop h hl⟩
/-- a clone of a part, in whatever world -/
theorem clone_part (b o c h : Nat) (l : List Nat) (W : World) (hw : Win W b o c l) (h3 : 3 ≤ h) (hl : h ≤ l.length) (h47 : l.length ≤ 140737488351232) (A3 : Addr) (hA : c ≠ 3 → A3 = ⟨b, o + 3, none⟩) :
    Calls Try.prog 88 #[.slice (some A3) (h - 3) (c - 3)] W fun e w' => ∃ v', e = .returned v' ∧ BOwn W.heap.size w' v' ((l.take h).drop 3) ∧ Below W.heap.size W w' := by
  have hlen : ((l.take h).drop 3).length = h - 3 := by simp; omega
  have hr : BRow W (.slice (some A3) (h - 3) (c - 3)) ((l.take h).drop 3) := by
    by_cases hc : c = 3
    · have h1 := hw.1
      have hd : (l.take h).drop 3 = [] := List.length_eq_zero_iff.1 (by omega)
      rw [hd]
      have e : h - 3 = 0 := by omega
      rw [e]
      exact .inr ⟨A3, c - 3, rfl, by simp, by have := hw.2.1; omega, by simp, by simp⟩
    · have := (hw.sub 3 h h3 hl).row
      rw [hlen] at this
      rw [hA hc]
      exact this
  refine (clone_any _ _ W hr (by omega)).mono ?_
  rintro e w' ⟨v', rfl, h1, _, h2⟩
  exact ⟨v', rfl, h1, h2⟩

/-- how much the box q still holds -/
def boxLen (W : World) (q : Nat) : Nat := match W.cell? ⟨q, 0, none⟩ with | some (.slice _ n _) => n | _ => 0
theorem boxLen_eq {W : World} {q : Nat} {t : TypeId} {a : Option Addr} {n c : Nat} (h : Boxed W q t (.slice a n c)) : boxLen W q = n := by
  unfold boxLen
  rw [h.cell]

set_option maxRecDepth 100000 in
set_option maxHeartbeats 4000000 in
theorem fields_iter (q b off cap : Nat) (l0 : List Nat) (w : World) (hq : Boxed w q 22 (.slice (some ⟨b, off, none⟩) l0.length cap)) (hw : Win w b off cap l0) (h47 : l0.length ≤ 140737488351232) (hqb : q ≠ b) (hb : b < w.heap.size) :
    SeqBox Fence.wide 4 Try.prog 87 #[.pointer (some ⟨q, 0, none⟩)] El.encs q [q, b] (El.G w.heap.size) (fun xs => xs.map El.gh = elsOf l0) (fun pre => pre.map El.gh <+: elsOf l0) w := fun lr J Jx W hW hJ hJx hY h0 => by
  refine callsIn_of_wp Try.func87 rfl trivial ?_ rfl
  simp only [Try.ntmps87, List.size_toArray, List.length_cons, List.length_nil, Nat.reduceAdd, Nat.reduceSub, Array.replicate_succ, Array.replicate_zero, List.push_toArray, List.append_toArray, List.nil_append, List.cons_append]
  gi_wp2
  gi_loopw [] (fun wr => ∃ (pre : List El) (l : List Nat) (o c : Nat), Boxed wr q 22 (.slice (some ⟨b, o, none⟩) l.length c) ∧ Win wr b o c l ∧ pre.map El.gh ++ elsOf l = elsOf l0 ∧ J pre wr ∧ w.heap.size ≤ wr.heap.size ∧ l.length ≤ l0.length) (fun wr => boxLen wr q)
  case atStart =>
    exact ⟨[], l0, off, cap, (hW.block q hq.lt).trans hq, hw.keep (hW.block b hb), rfl, h0, hW.size, Nat.le_refl _⟩
  case round =>
    obtain ⟨pre, l, o, c, hbx, hwn, hels, hJ1, hsz, hll⟩ := hrel
    have hcell := hbx.cell
    have hfz := hbx.frozen
    have HBX := Lib.hid hbx
    have HWN := Lib.hid hwn
    have HELS := Lib.hid hels
    have HJ1 := Lib.hid hJ1
    have hmax : l.length ≤ 9223372036854775807 := by omega
    clear hbx hwn hels hJ1
    by_cases hnil : l = []
    · subst hnil
      simp only [List.length_nil] at hcell
      gi_wp2
      go_end0
      exact ⟨⟨_, rfl⟩, .inl ⟨pre, by have h := HELS.out; rw [elsOf_nil, List.append_nil] at h; exact h, HJ1.out⟩⟩
    · have hpos : 0 < l.length := List.length_pos_iff.2 hnil
      by_cases h3 : l.length < 3
      · have hbad : bad l := by
          unfold bad hdr
          rw [if_neg (by omega)]
          exact .inl h3
        have hE := elsOf_bad hnil hbad
        have HSPE : (pre ++ [eErr]).map El.gh <+: elsOf l0 := by rw [← HELS.out, hE]; simp [El.gh, eErr]
        obtain ⟨fn, tmps, assign, body, hy, hR⟩ := hY pre eErr wr HJ1.out ⟨by decide, by simp [eErr], by simp [eErr], .inl ⟨rfl, rfl⟩⟩ HSPE
        change (Instr.yield lr #[.agg #[.int .u8 0, .slice none 0 0], .int .i64 2]).run _ _ = _ at hy
        clear HSPE
        have hfin : (pre ++ [eErr]).map El.gh = elsOf l0 := by
          rw [← HELS.out, hE]
          simp [El.gh, eErr]
        gi_wp2
        refine hR.mono ?_
        rintro e W1 (⟨rfl, hJ2, _⟩ | ⟨rfl, hx1⟩)
        · gi_wp2
          refine bodyPost_ret (results_none rfl _ _ _) rfl ?_
          exact ⟨⟨_, rfl⟩, .inl ⟨pre ++ [eErr], hfin, hJ2⟩⟩
        · gi_wp2
          refine bodyPost_ret (results_none rfl _ _ _) rfl ?_
          exact ⟨⟨_, rfl⟩, .inr ⟨pre ++ [eErr], by rw [hfin]; exact List.prefix_refl _, hx1⟩⟩
      · obtain ⟨x0, hx0⟩ : ∃ x, l[0]? = some x := ⟨l[0], List.getElem?_eq_getElem (by omega)⟩
        obtain ⟨x1, hx1⟩ : ∃ x, l[1]? = some x := ⟨l[1], List.getElem?_eq_getElem (by omega)⟩
        obtain ⟨x2, hx2⟩ : ∃ x, l[2]? = some x := ⟨l[2], List.getElem?_eq_getElem (by omega)⟩
        have g0 : l.getD 0 0 = x0 := by rw [List.getD_eq_getElem?_getD, hx0]; rfl
        have g1 : l.getD 1 0 = x1 := by rw [List.getD_eq_getElem?_getD, hx1]; rfl
        have g2 : l.getD 2 0 = x2 := by rw [List.getD_eq_getElem?_getD, hx2]; rfl
        have b0 : x0 < 256 := HWN.out.2.2.2 x0 (List.mem_of_getElem? hx0)
        have b1 : x1 < 256 := HWN.out.2.2.2 x1 (List.mem_of_getElem? hx1)
        have b2 : x2 < 256 := HWN.out.2.2.2 x2 (List.mem_of_getElem? hx2)
        have c0 : wr.cell? ⟨b, o, none⟩ = some (.int .u8 x0) := HWN.out.2.2.1 0 x0 hx0
        have c1 : wr.cell? ⟨b, o + 1, none⟩ = some (.int .u8 x1) := HWN.out.2.2.1 1 x1 hx1
        have c2 : wr.cell? ⟨b, o + 2, none⟩ = some (.int .u8 x2) := HWN.out.2.2.1 2 x2 hx2
        have G0 := Lib.hid g0
        have G1 := Lib.hid g1
        have G2 := Lib.hid g2
        have HX2 := Lib.hid hx2
        have hb' : b < wr.heap.size := Nat.lt_of_lt_of_le hb hsz
        have hq' : q < wr.heap.size := HBX.out.lt
        clear g0 g1 g2 hx0 hx1 hx2
        have hmx : Try.prog.follows .mixedOrders = true := by kernel_rfl
        have hF56 : Fence.wide.fn 88 := trivial
        by_cases hz : x0 = 0 ∧ x1 = 0
        · obtain ⟨rfl, rfl⟩ := hz
          have HH := Lib.hid (show hdr l = l.length by unfold hdr; rw [if_neg (by rw [G0.out, G1.out]; simp)])
          have hgood : ¬ bad l := by unfold bad; rw [HH.out]; omega
          have h3' : 3 ≤ l.length := by omega
          have hle' : l.length ≤ l.length := Nat.le_refl _
          obtain ⟨dl, hdl⟩ : ∃ dl, (l.take l.length).drop 3 = dl := ⟨_, rfl⟩
          have hE := elsOf_good hnil hgood
          rw [HH.out, G2.out, hdl] at hE
          have HE := Lib.hid hE
          have HSP := Lib.hid (show ∀ v : Value, (pre ++ [(⟨x2, v, dl, 0⟩ : El)]).map El.gh <+: elsOf l0 from fun v => by rw [← HELS.out, HE.out]; simp [El.gh])
          have HDL := Lib.hid hdl
          clear hE hdl
          have HBd := Lib.hid (show Boxed wr.drew q 22 (.slice (some ⟨b, o, none⟩) l.length c) from HBX.out)
          have HWd := Lib.hid (show Win wr.drew b o c l from HWN.out)
          have HJd := Lib.hid (show J pre wr.drew from hJ pre wr wr.drew none HJ1.out ⟨rfl, rfl, rfl, Nat.le_refl _, fun _ _ _ => rfl⟩ (.inl rfl))
          have hbw : b < wr.drew.heap.size := hb'
          have hqw : q < wr.drew.heap.size := hq'
          have hszd : w.heap.size ≤ wr.drew.heap.size := hsz
          have hcap : l.length ≤ c := HWN.out.1
          have hcap2 : l.length ≤ c := by omega
          have hlo3 : 3 ≤ l.length := h3'
          obtain ⟨A3, hA3, hsl3⟩ := slice_part b o c l.length l.length hlo3 hcap2
          obtain ⟨A4, hA4, hB4, hsl4⟩ := slice_rest b o c l.length l.length (by omega)
          have HA3 := Lib.hid hA3
          have HA4 := Lib.hid hA4
          obtain ⟨o4, ho4, hw4⟩ := HWN.out.rest l.length hle' hA4 hB4
          subst ho4
          have HW4 := Lib.hid (show Win wr.drew b o4 (c - l.length) (l.drop l.length) from hw4)
          clear hA3 hA4 hB4 hw4
          all_goals
            gi_wp2_with fail
            gi_region_with_o (first | (gi_at_call 88; refine (callsIn_wide.2 (clone_part b o c (l.length) l _ HWd.out h3' hle' (by omega) A3 HA3.out)).mono ?_; rintro e w2 ⟨v', rfl, ho, hbel⟩; rw [HDL.out] at ho; obtain ⟨av, cv, rfl⟩ := BOwn_form ho; have HB2 := Lib.hid (show Boxed w2 q 22 (.slice (some ⟨b, o, none⟩) l.length c) from (hbel.block q hqw).trans HBd.out); have HW2 := Lib.hid (HWd.out.keep (hbel.block b hbw)); have HQ2 := Lib.hid (HW4.out.keep (W' := w2) (hbel.block b hbw)); have HJ2 := Lib.hid (hJ pre _ w2 none HJd.out ⟨hbel.os, hbel.tape, hbel.output, hbel.size, fun i hi _ => hbel.block i hi⟩ (.inl rfl)); have hcell2 := HB2.out.cell; have c22 : w2.cell? ⟨b, o + 2, none⟩ = some (.int .u8 x2) := HW2.out.2.2.1 2 x2 HX2.out; have hsz2 := hbel.size; obtain ⟨fn, tmps, assign, body, hy, hR⟩ := hY pre ⟨x2, .slice av dl.length cv, dl, 0⟩ w2 HJ2.out ⟨b2, ho.lower hszd⟩ (HSP.out _); change (Instr.yield lr #[.agg #[.int .u8 x2, .slice av dl.length cv], .int .i64 0]).run _ _ = _ at hy) | (refine hR.mono ?_; rintro e w3 hh3; obtain ⟨bb, rfl, hb3⟩ := ybool hh3; have H3 := Lib.hid hb3; clear hh3 hb3))
            all_goals
              rcases H3.out with ⟨rfl, hJ3, hlie⟩ | ⟨rfl, hx3⟩
              · have HJ3 := Lib.hid hJ3
                have HB3 := Lib.hid (show Boxed w3 q 22 (.slice (some ⟨b, o, none⟩) l.length c) from (hlie.1 q (by simp)).trans HB2.out)
                have HW3 := Lib.hid (HQ2.out.keep (hlie.1 b (by simp)))
                have hcell3 := HB3.out.cell
                have hfz3 := HB3.out.frozen
                have hsz3 := hlie.2
                clear hJ3 hlie hcell2 c22 hy hR
                gi_wp2
                have hdlen : (l.drop l.length).length = 0 := by simp
                have HBn : Boxed (w3.setCell ⟨q, 0, none⟩ (.slice (some ⟨b, o4, none⟩) 0 (c - l.length))) q 22 (.slice (some ⟨b, o4, none⟩) 0 (c - l.length)) := Boxed_set HB3.out _
                go_roundw
                case rel =>
                  refine ⟨pre ++ [⟨x2, .slice av dl.length cv, dl, 0⟩], l.drop l.length, o4, c - l.length, by rw [hdlen]; exact HBn, HW3.out.keep (Below.heap_setCell _ _ _ _ (by simp; omega)), ?_, hJ _ w3 _ (some q) HJ3.out (gb_set (gb_refl _ _) (.inl rfl) _) (.inr rfl), ?_, by rw [hdlen]; omega⟩
                  · rw [← HELS.out, HE.out]
                    simp [El.gh]
                  · have e : (w3.setCell ⟨q, 0, none⟩ (.slice (some ⟨b, o4, none⟩) 0 (c - l.length))).heap.size = w3.heap.size := by simp [World.setCell]
                    omega
                case measure =>
                  rw [boxLen_eq HBn, boxLen_eq HBX.out]
                  omega
              · gi_wp2
                refine bodyPost_ret (results_none rfl _ _ _) rfl ?_
                exact ⟨⟨_, rfl⟩, .inr ⟨pre ++ [⟨x2, .slice av dl.length cv, dl, 0⟩], by rw [← HELS.out, HE.out]; simp [El.gh], hx3⟩⟩
        · obtain ⟨h, hh0⟩ : ∃ h, 256 * x0 + x1 = h := ⟨_, rfl⟩
          have HH := Lib.hid (show hdr l = h by unfold hdr; rw [if_pos ⟨by omega, by rw [G0.out, G1.out]; omega⟩, G0.out, G1.out]; exact hh0)
          have hor : bits .or .i64 ((x0 : Int) * 256) (x1 : Int) = (h : Int) := by rw [or_word x0 x1 b0 b1, hh0]
          have hhm : h ≤ 65535 := by omega
          clear hh0
          by_cases hbd : bad l
          · by_cases hz0 : x0 = 0
            · subst hz0
              have hor0 : bits .or .i64 0 (x1 : Int) = (h : Int) := by simpa using hor
              clear hor
              have hz1 : ((x1 : Int) != 0) = true := bne_iff_ne.2 (by omega)
              gi_wp2_with fail
              refine wpIn_wide.2 ?_
              go_quiet (fail)
              have hbad : bad l := hbd
              have hE := elsOf_bad hnil hbad
              have HJd := Lib.hid (show J pre (wr.drewN nq) from hJ pre wr (wr.drewN nq) none HJ1.out ⟨rfl, rfl, rfl, Nat.le_refl _, fun _ _ _ => rfl⟩ (.inl rfl))
              have HSPE : (pre ++ [eErr]).map El.gh <+: elsOf l0 := by rw [← HELS.out, hE]; simp [El.gh, eErr]
              obtain ⟨fn, tmps, assign, body, hy, hR⟩ := hY pre eErr (wr.drewN nq) HJd.out ⟨by decide, by simp [eErr], by simp [eErr], .inl ⟨rfl, rfl⟩⟩ HSPE
              change (Instr.yield lr #[.agg #[.int .u8 0, .slice none 0 0], .int .i64 2]).run _ _ = _ at hy
              clear HSPE
              have hfin : (pre ++ [eErr]).map El.gh = elsOf l0 := by
                rw [← HELS.out, hE]
                simp [El.gh, eErr]
              have HFIN := Lib.hid hfin
              clear hfin hE
              by_cases h3' : h < 3
              all_goals
                first
                | have hd3 : decide ((h : Int) < 3) = true := decide_eq_true (by omega)
                | (have hd3 : decide ((h : Int) < 3) = false := decide_eq_false (by omega)
                   have hdl : decide (l.length < h) = true := decide_eq_true (by rw [← HH.out]; unfold bad at hbad; have h4 := HH.out; omega))
                gi_wp2
                refine hR.mono ?_
                rintro e W1 (⟨rfl, hJ2, _⟩ | ⟨rfl, hx1⟩)
                · gi_wp2
                  refine bodyPost_ret (results_none rfl _ _ _) rfl ?_
                  exact ⟨⟨_, rfl⟩, .inl ⟨pre ++ [eErr], HFIN.out, hJ2⟩⟩
                · gi_wp2
                  refine bodyPost_ret (results_none rfl _ _ _) rfl ?_
                  exact ⟨⟨_, rfl⟩, .inr ⟨pre ++ [eErr], by rw [HFIN.out]; exact List.prefix_refl _, hx1⟩⟩
            · have hz1 : ((x0 : Int) != 0) = true := bne_iff_ne.2 (by omega)
              gi_wp2_with fail
              refine wpIn_wide.2 ?_
              go_quiet (fail)
              have hbad : bad l := hbd
              have hE := elsOf_bad hnil hbad
              have HJd := Lib.hid (show J pre (wr.drewN nq) from hJ pre wr (wr.drewN nq) none HJ1.out ⟨rfl, rfl, rfl, Nat.le_refl _, fun _ _ _ => rfl⟩ (.inl rfl))
              have HSPE : (pre ++ [eErr]).map El.gh <+: elsOf l0 := by rw [← HELS.out, hE]; simp [El.gh, eErr]
              obtain ⟨fn, tmps, assign, body, hy, hR⟩ := hY pre eErr (wr.drewN nq) HJd.out ⟨by decide, by simp [eErr], by simp [eErr], .inl ⟨rfl, rfl⟩⟩ HSPE
              change (Instr.yield lr #[.agg #[.int .u8 0, .slice none 0 0], .int .i64 2]).run _ _ = _ at hy
              clear HSPE
              have hfin : (pre ++ [eErr]).map El.gh = elsOf l0 := by
                rw [← HELS.out, hE]
                simp [El.gh, eErr]
              have HFIN := Lib.hid hfin
              clear hfin hE
              by_cases h3' : h < 3
              all_goals
                first
                | have hd3 : decide ((h : Int) < 3) = true := decide_eq_true (by omega)
                | (have hd3 : decide ((h : Int) < 3) = false := decide_eq_false (by omega)
                   have hdl : decide (l.length < h) = true := decide_eq_true (by rw [← HH.out]; unfold bad at hbad; have h4 := HH.out; omega))
                gi_wp2
                refine hR.mono ?_
                rintro e W1 (⟨rfl, hJ2, _⟩ | ⟨rfl, hx1⟩)
                · gi_wp2
                  refine bodyPost_ret (results_none rfl _ _ _) rfl ?_
                  exact ⟨⟨_, rfl⟩, .inl ⟨pre ++ [eErr], HFIN.out, hJ2⟩⟩
                · gi_wp2
                  refine bodyPost_ret (results_none rfl _ _ _) rfl ?_
                  exact ⟨⟨_, rfl⟩, .inr ⟨pre ++ [eErr], by rw [HFIN.out]; exact List.prefix_refl _, hx1⟩⟩
          · have hgood := hbd
            have h3' : 3 ≤ h := by unfold bad at hbd; rw [HH.out] at hbd; omega
            have hle' : h ≤ l.length := by unfold bad at hbd; rw [HH.out] at hbd; omega
            have hd3 : decide ((h : Int) < 3) = false := decide_eq_false (by omega)
            have hdl3 : decide (l.length < h) = false := decide_eq_false (by omega)
            clear hbd
            by_cases hz0 : x0 = 0
            · subst hz0
              have hor0 : bits .or .i64 0 (x1 : Int) = (h : Int) := by simpa using hor
              clear hor
              have hz1 : ((x1 : Int) != 0) = true := bne_iff_ne.2 (by omega)
              gi_wp2_with fail
              refine wpIn_wide.2 ?_
              go_quiet (fail)
              obtain ⟨dl, hdl⟩ : ∃ dl, (l.take h).drop 3 = dl := ⟨_, rfl⟩
              have hE := elsOf_good hnil hgood
              rw [HH.out, G2.out, hdl] at hE
              have HE := Lib.hid hE
              have HSP := Lib.hid (show ∀ v : Value, (pre ++ [(⟨x2, v, dl, 0⟩ : El)]).map El.gh <+: elsOf l0 from fun v => by rw [← HELS.out, HE.out]; simp [El.gh])
              have HDL := Lib.hid hdl
              clear hE hdl
              have HBd := Lib.hid (show Boxed (wr.drewN (nq + 1)) q 22 (.slice (some ⟨b, o, none⟩) l.length c) from HBX.out)
              have HWd := Lib.hid (show Win (wr.drewN (nq + 1)) b o c l from HWN.out)
              have HJd := Lib.hid (show J pre (wr.drewN (nq + 1)) from hJ pre wr (wr.drewN (nq + 1)) none HJ1.out ⟨rfl, rfl, rfl, Nat.le_refl _, fun _ _ _ => rfl⟩ (.inl rfl))
              have hbw : b < (wr.drewN (nq + 1)).heap.size := hb'
              have hqw : q < (wr.drewN (nq + 1)).heap.size := hq'
              have hszd : w.heap.size ≤ (wr.drewN (nq + 1)).heap.size := hsz
              have hcap : l.length ≤ c := HWN.out.1
              have hcap2 : h ≤ c := by omega
              have hlo3 : 3 ≤ h := h3'
              obtain ⟨A3, hA3, hsl3⟩ := slice_part b o c h l.length hlo3 hcap2
              obtain ⟨A4, hA4, hB4, hsl4⟩ := slice_rest b o c h l.length (by omega)
              have HA3 := Lib.hid hA3
              have HA4 := Lib.hid hA4
              obtain ⟨o4, ho4, hw4⟩ := HWN.out.rest h hle' hA4 hB4
              subst ho4
              have HW4 := Lib.hid (show Win (wr.drewN (nq + 1)) b o4 (c - h) (l.drop h) from hw4)
              clear hA3 hA4 hB4 hw4
              all_goals
                gi_wp2_with fail
                gi_region_with_o (first | (gi_at_call 88; refine (callsIn_wide.2 (clone_part b o c h l _ HWd.out h3' hle' (by omega) A3 HA3.out)).mono ?_; rintro e w2 ⟨v', rfl, ho, hbel⟩; rw [HDL.out] at ho; obtain ⟨av, cv, rfl⟩ := BOwn_form ho; have HB2 := Lib.hid (show Boxed w2 q 22 (.slice (some ⟨b, o, none⟩) l.length c) from (hbel.block q hqw).trans HBd.out); have HW2 := Lib.hid (HWd.out.keep (hbel.block b hbw)); have HQ2 := Lib.hid (HW4.out.keep (W' := w2) (hbel.block b hbw)); have HJ2 := Lib.hid (hJ pre _ w2 none HJd.out ⟨hbel.os, hbel.tape, hbel.output, hbel.size, fun i hi _ => hbel.block i hi⟩ (.inl rfl)); have hcell2 := HB2.out.cell; have c22 : w2.cell? ⟨b, o + 2, none⟩ = some (.int .u8 x2) := HW2.out.2.2.1 2 x2 HX2.out; have hsz2 := hbel.size; obtain ⟨fn, tmps, assign, body, hy, hR⟩ := hY pre ⟨x2, .slice av dl.length cv, dl, 0⟩ w2 HJ2.out ⟨b2, ho.lower hszd⟩ (HSP.out _); change (Instr.yield lr #[.agg #[.int .u8 x2, .slice av dl.length cv], .int .i64 0]).run _ _ = _ at hy) | (refine hR.mono ?_; rintro e w3 hh3; obtain ⟨bb, rfl, hb3⟩ := ybool hh3; have H3 := Lib.hid hb3; clear hh3 hb3))
                all_goals
                  rcases H3.out with ⟨rfl, hJ3, hlie⟩ | ⟨rfl, hx3⟩
                  · have HJ3 := Lib.hid hJ3
                    have HB3 := Lib.hid (show Boxed w3 q 22 (.slice (some ⟨b, o, none⟩) l.length c) from (hlie.1 q (by simp)).trans HB2.out)
                    have HW3 := Lib.hid (HQ2.out.keep (hlie.1 b (by simp)))
                    have hcell3 := HB3.out.cell
                    have hfz3 := HB3.out.frozen
                    have hsz3 := hlie.2
                    clear hJ3 hlie hcell2 c22 hy hR
                    gi_wp2
                    have hdlen : (l.drop h).length = (l.length - h) := by simp
                    have HBn : Boxed (w3.setCell ⟨q, 0, none⟩ (.slice (some ⟨b, o4, none⟩) (l.length - h) (c - h))) q 22 (.slice (some ⟨b, o4, none⟩) (l.length - h) (c - h)) := Boxed_set HB3.out _
                    go_roundw
                    case rel =>
                      refine ⟨pre ++ [⟨x2, .slice av dl.length cv, dl, 0⟩], l.drop h, o4, c - h, by rw [hdlen]; exact HBn, HW3.out.keep (Below.heap_setCell _ _ _ _ (by simp; omega)), ?_, hJ _ w3 _ (some q) HJ3.out (gb_set (gb_refl _ _) (.inl rfl) _) (.inr rfl), ?_, by rw [hdlen]; omega⟩
                      · rw [← HELS.out, HE.out]
                        simp [El.gh]
                      · have e : (w3.setCell ⟨q, 0, none⟩ (.slice (some ⟨b, o4, none⟩) (l.length - h) (c - h))).heap.size = w3.heap.size := by simp [World.setCell]
                        omega
                    case measure =>
                      rw [boxLen_eq HBn, boxLen_eq HBX.out]
                      omega
                  · gi_wp2
                    refine bodyPost_ret (results_none rfl _ _ _) rfl ?_
                    exact ⟨⟨_, rfl⟩, .inr ⟨pre ++ [⟨x2, .slice av dl.length cv, dl, 0⟩], by rw [← HELS.out, HE.out]; simp [El.gh], hx3⟩⟩
            · have hz1 : ((x0 : Int) != 0) = true := bne_iff_ne.2 (by omega)
              gi_wp2_with fail
              refine wpIn_wide.2 ?_
              go_quiet (fail)
              obtain ⟨dl, hdl⟩ : ∃ dl, (l.take h).drop 3 = dl := ⟨_, rfl⟩
              have hE := elsOf_good hnil hgood
              rw [HH.out, G2.out, hdl] at hE
              have HE := Lib.hid hE
              have HSP := Lib.hid (show ∀ v : Value, (pre ++ [(⟨x2, v, dl, 0⟩ : El)]).map El.gh <+: elsOf l0 from fun v => by rw [← HELS.out, HE.out]; simp [El.gh])
              have HDL := Lib.hid hdl
              clear hE hdl
              have HBd := Lib.hid (show Boxed (wr.drewN (nq + 1)) q 22 (.slice (some ⟨b, o, none⟩) l.length c) from HBX.out)
              have HWd := Lib.hid (show Win (wr.drewN (nq + 1)) b o c l from HWN.out)
              have HJd := Lib.hid (show J pre (wr.drewN (nq + 1)) from hJ pre wr (wr.drewN (nq + 1)) none HJ1.out ⟨rfl, rfl, rfl, Nat.le_refl _, fun _ _ _ => rfl⟩ (.inl rfl))
              have hbw : b < (wr.drewN (nq + 1)).heap.size := hb'
              have hqw : q < (wr.drewN (nq + 1)).heap.size := hq'
              have hszd : w.heap.size ≤ (wr.drewN (nq + 1)).heap.size := hsz
              have hcap : l.length ≤ c := HWN.out.1
              have hcap2 : h ≤ c := by omega
              have hlo3 : 3 ≤ h := h3'
              obtain ⟨A3, hA3, hsl3⟩ := slice_part b o c h l.length hlo3 hcap2
              obtain ⟨A4, hA4, hB4, hsl4⟩ := slice_rest b o c h l.length (by omega)
              have HA3 := Lib.hid hA3
              have HA4 := Lib.hid hA4
              obtain ⟨o4, ho4, hw4⟩ := HWN.out.rest h hle' hA4 hB4
              subst ho4
              have HW4 := Lib.hid (show Win (wr.drewN (nq + 1)) b o4 (c - h) (l.drop h) from hw4)
              clear hA3 hA4 hB4 hw4
              all_goals
                gi_wp2_with fail
                gi_region_with_o (first | (gi_at_call 88; refine (callsIn_wide.2 (clone_part b o c h l _ HWd.out h3' hle' (by omega) A3 HA3.out)).mono ?_; rintro e w2 ⟨v', rfl, ho, hbel⟩; rw [HDL.out] at ho; obtain ⟨av, cv, rfl⟩ := BOwn_form ho; have HB2 := Lib.hid (show Boxed w2 q 22 (.slice (some ⟨b, o, none⟩) l.length c) from (hbel.block q hqw).trans HBd.out); have HW2 := Lib.hid (HWd.out.keep (hbel.block b hbw)); have HQ2 := Lib.hid (HW4.out.keep (W' := w2) (hbel.block b hbw)); have HJ2 := Lib.hid (hJ pre _ w2 none HJd.out ⟨hbel.os, hbel.tape, hbel.output, hbel.size, fun i hi _ => hbel.block i hi⟩ (.inl rfl)); have hcell2 := HB2.out.cell; have c22 : w2.cell? ⟨b, o + 2, none⟩ = some (.int .u8 x2) := HW2.out.2.2.1 2 x2 HX2.out; have hsz2 := hbel.size; obtain ⟨fn, tmps, assign, body, hy, hR⟩ := hY pre ⟨x2, .slice av dl.length cv, dl, 0⟩ w2 HJ2.out ⟨b2, ho.lower hszd⟩ (HSP.out _); change (Instr.yield lr #[.agg #[.int .u8 x2, .slice av dl.length cv], .int .i64 0]).run _ _ = _ at hy) | (refine hR.mono ?_; rintro e w3 hh3; obtain ⟨bb, rfl, hb3⟩ := ybool hh3; have H3 := Lib.hid hb3; clear hh3 hb3))
                all_goals
                  rcases H3.out with ⟨rfl, hJ3, hlie⟩ | ⟨rfl, hx3⟩
                  · have HJ3 := Lib.hid hJ3
                    have HB3 := Lib.hid (show Boxed w3 q 22 (.slice (some ⟨b, o, none⟩) l.length c) from (hlie.1 q (by simp)).trans HB2.out)
                    have HW3 := Lib.hid (HQ2.out.keep (hlie.1 b (by simp)))
                    have hcell3 := HB3.out.cell
                    have hfz3 := HB3.out.frozen
                    have hsz3 := hlie.2
                    clear hJ3 hlie hcell2 c22 hy hR
                    gi_wp2
                    have hdlen : (l.drop h).length = (l.length - h) := by simp
                    have HBn : Boxed (w3.setCell ⟨q, 0, none⟩ (.slice (some ⟨b, o4, none⟩) (l.length - h) (c - h))) q 22 (.slice (some ⟨b, o4, none⟩) (l.length - h) (c - h)) := Boxed_set HB3.out _
                    go_roundw
                    case rel =>
                      refine ⟨pre ++ [⟨x2, .slice av dl.length cv, dl, 0⟩], l.drop h, o4, c - h, by rw [hdlen]; exact HBn, HW3.out.keep (Below.heap_setCell _ _ _ _ (by simp; omega)), ?_, hJ _ w3 _ (some q) HJ3.out (gb_set (gb_refl _ _) (.inl rfl) _) (.inr rfl), ?_, by rw [hdlen]; omega⟩
                      · rw [← HELS.out, HE.out]
                        simp [El.gh]
                      · have e : (w3.setCell ⟨q, 0, none⟩ (.slice (some ⟨b, o4, none⟩) (l.length - h) (c - h))).heap.size = w3.heap.size := by simp [World.setCell]
                        omega
                    case measure =>
                      rw [boxLen_eq HBn, boxLen_eq HBX.out]
                      omega
                  · gi_wp2
                    refine bodyPost_ret (results_none rfl _ _ _) rfl ?_
                    exact ⟨⟨_, rfl⟩, .inr ⟨pre ++ [⟨x2, .slice av dl.length cv, dl, 0⟩], by rw [← HELS.out, HE.out]; simp [El.gh], hx3⟩⟩
end Go.Proofs.Ytcibhchbgendaab.Sf
