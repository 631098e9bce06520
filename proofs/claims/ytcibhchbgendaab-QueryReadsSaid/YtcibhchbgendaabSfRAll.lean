/- The walk of vitrineref21.All: all fields up to where one isn't there. -/
import Derived.Test.YtcibhchbgendaabSfSame
import Derived.Deep.QuietTactic
import Derived.BigQuiet
import Derived.Deep.RegionLaw
import Derived.Deep.RegionHeld3
namespace Go.Proofs.Ytcibhchbgendaab.Sf
open Go Go.RowKit Go.Proofs.Ytcibhchbgendaab.By

/-- append to a slice of one's own, as one step of a region that draws -/
theorem step_append_own {P : Program} {ops : Array Oper} {o : Oper} {a : Act} {w : World} {K : Act → World → Prop} {Q : Exit → Act → World → Prop} {E : Prop}
    (hg : o.guard = none) (s x : Operand) (t : TypeId) (hop : o.op = Op.call { callee := Callee.builtin Builtin.append, args := #[s, x], argTypes := #[t, t] })
    (base : Nat) (e : TypeId) (i : TypeInfo) (z : Value) (size bytes : Nat) (h1 : P.underlying t = some (.slice e)) (h2 : P.info? e = some i) (h3 : i.zero = some z) (h4 : i.size = size) (h5 : i.bytes = bytes) (h6 : z.cells.size = size) (h7 : 0 < size)
    (v : Value) (k : Nat) (xs : List Value) (hs : a.eval s = v) (hown : w.ownsRow base e size v k xs) (ad : Addr) (m c : Nat) (news : List Value) (hx : a.eval x = .slice (some ad) m c) (hn : news.length = m * size)
    (hc : ∀ j u, news[j]? = some u → w.cell? (ad.add j) = some u) (h1c : ∀ u ∈ news, u.oneCell' = true) (b1 : k + m ≤ maxLen) (b2 : (k + m) * bytes ≤ 140737488355328) (b3 : base ≤ w.heap.size)
    (hK : ∀ v' w', w'.ownsRow base e size v' (k + m) (xs ++ news) → w.grownBy w' v.ownBlock → (v' = .slice none 0 0 ↔ v = .slice none 0 0 ∧ m = 0) → K (a.put o.dst v') w') :
    if Region.wanted o (yielded ops a.tmps) = true then Oper.wp P o a w K Q else E := by
  have hw : Region.wanted o (yielded ops a.tmps) = true := by simp [Region.wanted, hg]
  rw [if_pos hw]
  obtain ⟨v', w', hrun, r1, r2, r3⟩ := run_append_own (P := P) w base t o.type e i z size bytes h1 h2 h3 h4 h5 h6 h7 v k xs hown ad m c news hn hc h1c b1 b2 b3
  unfold Oper.wp
  simp [execOp, hop, resolve, invoke, builtin, hs, hx, hrun, Result.andThen]
  exact hK v' w' r1 r2 r3
theorem BOwn_cap {B : Nat} {w : World} {a : Option Addr} {n cap : Nat} {l : List Nat} (h : BOwn B w (.slice a n cap) l) : n ≤ cap ∧ cap ≤ maxLen := by
  rcases h.row with ⟨e, _⟩ | ⟨a, c, e, h4, h5, _⟩
  · injection e with e1 e2 e3; subst e2 e3; exact ⟨Nat.le_refl _, by decide⟩
  · injection e with e1 e2 e3; omega
/-- a part of bytes of one's own, as a slice -/
theorem BOwn_mid {B : Nat} {w : World} {g n cap : Nat} {l : List Nat} (h : BOwn B w (.slice (some ⟨g, 0, none⟩) n cap) l) (i j : Nat) (hij : i ≤ j) (hj : j ≤ n) : ∃ A4 : Addr, (if cap = i then some (⟨g, 0, none⟩ : Addr) else some ⟨g, i, none⟩) = some A4 ∧
    (∀ W : World, W.heap[g]? = w.heap[g]? → BRow W (.slice (some A4) (j - i) (cap - i)) ((l.take j).drop i)) ∧
    ∀ (w : World) (x y : Int), x = i → y = j → (Instr.slice 22 (.slice (some ⟨g, 0, none⟩) n cap) (some (.int .i64 x)) (some (.int .i64 y)) none).run Try.prog w = .ok (.slice (some A4) (j - i) (cap - i)) w := by
  have hn : n = l.length := by
    obtain ⟨a, c, e⟩ := BOwn_form h
    injection e
  have hcap : n ≤ cap ∧ cap ≤ maxLen := by
    rcases h.row with ⟨e, _⟩ | ⟨a, c, e, h4, h5, _⟩
    · cases e
    · injection e with e1 e2 e3; omega
  refine ⟨if cap = i then ⟨g, 0, none⟩ else ⟨g, 0 + i, none⟩, by split <;> simp, fun W hW => ?_, fun w x y hx hy => ?_⟩
  · have hw : BOwn B W (.slice (some ⟨g, 0, none⟩) n cap) l := h.keep fun g' _ _ e => by
      injection e with e; injection e with e; injection e with e; subst e; exact hW
    have hlen : ((l.take j).drop i).length = j - i := by simp; omega
    refine .inr ⟨_, cap - i, by rw [hlen], by omega, by omega, fun k x hx => ?_, fun x hx => h.1 x (List.mem_of_mem_take (List.mem_of_mem_drop hx))⟩
    have hk : k < ((l.take j).drop i).length := (List.getElem?_eq_some_iff.1 hx).1
    rw [if_neg (by omega), addr_add0, Nat.zero_add]
    rw [List.getElem?_drop, List.getElem?_take, if_pos (by omega)] at hx
    exact BOwn_cell hw hx
  · subst hx hy
    rw [run_slice_lh w 22 (some ⟨g, 0, none⟩) n cap (by kernel_rfl) .i64 .i64 i j (by omega) (by omega) (by omega)]
    have hz : (sizeOf (Try.prog.elem 22)).run Try.prog w = .ok 1 w := by kernel_rfl
    rw [hz]
    simp only [Result.andThen, sliced]
    by_cases e : cap = i
    · simp [e]
    · simp [e, addr_add0]

/-- one more element at the end of elements of one's own -/
theorem FRow_append {t : TypeId} {B : Nat} {W w1 : World} {v v' : Value} {pre : List El} {x : El} {tmp : Obj} (h : FRow t B W v pre) (hx : x.G B W) (ht : t ≠ 5) (hB : B ≤ W.heap.size)
    (hown : w1.ownsRow B t 2 v' (pre.length + 1) (pre.flatMap El.cells ++ x.cells)) (hgrow : (W.alloc tmp).grownBy w1 v.ownBlock) : FRow t B w1 v' (pre ++ [x]) ∧ Below B W w1 ∧ ∀ C u l, BOwn C W u l → BOwn C w1 u l := by
  have hs : (∀ C, Safe C (W.alloc tmp) v.ownBlock) ∧ ∀ j, v.ownBlock = some j → B ≤ j := by
    rcases h.1.2 with ⟨h1, _⟩ | ⟨g, cap, cur, h1, hg, hh, _⟩
    · subst h1
      exact ⟨fun C r hr => (by cases hr), fun r hr => (by cases hr)⟩
    · subst h1
      refine ⟨fun C r hr => ?_, fun r hr => ?_⟩
      · injection hr with hr
        subst hr
        exact .inr (.inr ⟨_, _, _, (Below.heap_alloc W tmp g (Array.getElem?_eq_some_iff.1 hh).1).trans hh, ht⟩)
      · injection hr with hr
        subst hr
        exact hg
  have hb := (Below.refl W.heap.size W).alloc (Nat.le_refl _) tmp
  have ha : W.grownBy (W.alloc tmp) none := ⟨hb.os, hb.tape, hb.output, hb.size, fun i hi _ => hb.block i hi⟩
  have hG : ∀ y : El, y.G B W → y.G B w1 := fun y hy => El.G_safe (El.G_safe hy ha (Safe.none _ _)) hgrow (hs.1 B)
  refine ⟨⟨by rw [List.length_append, List.flatMap_append]; simpa using hown, fun y hy => ?_⟩, ((Below.refl B W).alloc hB tmp).grown hgrow (by simp; omega) hs.2, fun C u l hu => BOwn_safe (BOwn_safe hu ha (Safe.none _ _)) hgrow (hs.1 C)⟩
  rcases List.mem_append.1 hy with hy | hy
  · exact hG y (h.2 y hy)
  · simp at hy
    subst hy
    exact hG _ hx
theorem s2_alloc {w W : World} {A : Addr} {a : Value} (h : W.cell? A = some a ∧ Below w.heap.size w W) (o : Obj) : (W.alloc o).cell? A = some a ∧ Below w.heap.size w (W.alloc o) :=
  ⟨(World.cell?_alloc_lt _ _ _ (World.block_lt_of_cell? W A h.1)).trans h.1, h.2.alloc h.2.size _⟩
theorem drop_part (l : List Nat) (k h : Nat) : ((l.drop k).take h).drop 3 = (l.take (k + h)).drop (k + 3) := by
  rw [List.take_drop, List.drop_drop]
set_option maxHeartbeats 8000000 in
set_option maxRecDepth 100000 in
theorem rall_any (B : Nat) (v : Value) (l : List Nat) (w : World) (hv : BOwn B w v l) (h47 : l.length ≤ 1000000) :
    Calls Try.prog 79 #[v] w fun e w' => FEnd 140 (fieldsOf l) (endOf l) w.heap.size e w' ∧ Below w.heap.size w w' := by
  obtain ⟨i0, hi, hz0, hz1, hz2⟩ := info_parts field_info
  obtain ⟨a, cap, rfl⟩ := BOwn_form hv
  have HV := Lib.hid hv
  obtain ⟨n, hn⟩ : ∃ n, n = l.length := ⟨_, rfl⟩
  rw [← hn] at HV h47 ⊢
  have HN := Lib.hid hn
  clear hv hn
  go_enter Try.func79, Try.ntmps79
  go_wp2_with fail
  go_loopw [4, 5] (fun vo i wr => ∃ (k : Nat) (pre : List El), k ≤ n ∧ i = .int .i64 k ∧ FRow 140 w.heap.size wr vo pre ∧ (∀ x ∈ pre, x.e = 0) ∧ pre.map El.gh ++ elsOf (l.drop k) = elsOf l ∧ Below w.heap.size w wr ∧ pre.length ≤ k) (fun _ i _ => n - (intOf i).toNat)
  case atStart => exact ⟨0, [], Nat.zero_le _, rfl, ⟨World.ownsRow_nil _ _ _ _, by simp⟩, by simp, by simp, Below.refl _ _, by simp⟩
  case round =>
    obtain ⟨k, pre, hk, rfl, hf, he, hels, hb, hpk⟩ := hrel
    obtain ⟨ao, co, rfl⟩ := row_form hf.1
    have HF := Lib.hid hf
    have HE := Lib.hid he
    have HELS := Lib.hid hels
    have HB := Lib.hid hb
    have hsz := hb.size
    clear hf he hels hb
    have HVr := Lib.hid (HV.out.below HB.out (Nat.le_refl _))
    by_cases hlt : k < n
    · have hln : (l.drop k).length = n - k := by rw [List.length_drop, ← HN.out]
      have hne : l.drop k ≠ [] := fun h => by rw [h] at hln; simp at hln; omega
      obtain ⟨left, hleft⟩ : ∃ left, left = n - k := ⟨_, rfl⟩
      have hli : (n : Int) - (k : Int) = (left : Int) := by omega
      rw [← hleft] at hln
      by_cases h3 : left < 3
      · have hbad : bad (l.drop k) := by
          unfold bad hdr
          rw [if_neg (by omega), hln]
          exact .inl h3
        have hEE := elsOf_bad hne hbad
        rw [hEE, El.gh_ok HE.out] at HELS
        have ht := told_err (l := l) (fs := pre.map El.fd) (x := (0, [], 2)) (by decide) (by rw [HELS.out]; exact List.prefix_refl _)
        have HT1 := Lib.hid ht.1
        have HT2 := Lib.hid ht.2.1
        have hd3 : decide ((left : Int) < 3) = true := decide_eq_true (by omega)
        clear ht hEE hbad hne hln hleft
        go_wp2_with fail
        go_ret2
        exact ⟨⟨_, pre, by rw [HT2.out]; try rfl, HF.out, HT1.out.symm⟩, HB.out⟩
      · obtain ⟨g, rfl⟩ : ∃ g, a = some ⟨g, 0, none⟩ := by
          rcases BOwn.lt HV.out with h | ⟨g, m, c, h, _⟩
          · injection h with _ h _; omega
          · injection h with h; exact ⟨g, h⟩
        obtain ⟨x0, hx0⟩ : ∃ x, l[k]? = some x := ⟨l[k]'(by have := HN.out; omega), List.getElem?_eq_getElem _⟩
        obtain ⟨x1, hx1⟩ : ∃ x, l[k + 1]? = some x := ⟨l[k + 1]'(by have := HN.out; omega), List.getElem?_eq_getElem _⟩
        obtain ⟨x2, hx2⟩ : ∃ x, l[k + 2]? = some x := ⟨l[k + 2]'(by have := HN.out; omega), List.getElem?_eq_getElem _⟩
        have c0 := BOwn_cell HVr.out hx0
        have c1 := BOwn_cell HVr.out hx1
        have c2 := BOwn_cell HVr.out hx2
        have b0 : x0 < 256 := HV.out.1 x0 (List.mem_of_getElem? hx0)
        have b1 : x1 < 256 := HV.out.1 x1 (List.mem_of_getElem? hx1)
        have b2 : x2 < 256 := HV.out.1 x2 (List.mem_of_getElem? hx2)
        have g0 : (l.drop k).getD 0 0 = x0 := by rw [List.getD_eq_getElem?_getD, List.getElem?_drop, Nat.add_zero, hx0]; rfl
        have g1 : (l.drop k).getD 1 0 = x1 := by rw [List.getD_eq_getElem?_getD, List.getElem?_drop, hx1]; rfl
        have g2 : (l.drop k).getD 2 0 = x2 := by rw [List.getD_eq_getElem?_getD, List.getElem?_drop, hx2]; rfl
        obtain ⟨h0, hh0⟩ : ∃ h, 256 * x0 + x1 = h := ⟨_, rfl⟩
        have hs0 : 256 * (x0 : Int) + (x1 : Int) = (h0 : Int) := by omega
        have hge : decide ((left : Int) < 3) = false := decide_eq_false (by omega)
        have hlg : decide ((k : Int) < (n : Int)) = true := decide_eq_true (by omega)
        have hk1 : k + 1 < n := by omega
        have hk2 : k + 2 < n := by omega
        have d0 : wr.cell? ⟨g, k, none⟩ = some (.int .u8 (x0 : Int)) := c0
        have d1 : wr.cell? ⟨g, k + 1, none⟩ = some (.int .u8 (x1 : Int)) := c1
        have d2 : wr.cell? ⟨g, k + 2, none⟩ = some (.int .u8 (x2 : Int)) := c2
        clear c0 c1 c2
        by_cases hz : h0 = 0
        · have hhz : ((h0 : Int) == 0) = true := beq_iff_eq.2 (by omega)
          go_wp2_with fail
          go_quiet (fail)
          have HH := Lib.hid (show hdr (l.drop k) = n - k by unfold hdr; rw [if_neg (by rw [g0, g1]; omega), hln]; omega)
          have HNB := Lib.hid (show ¬ bad (l.drop k) by unfold bad; rw [HH.out, hln]; omega)
          obtain ⟨W0, hW0⟩ : ∃ W0, W0 = wr.drewN nq := ⟨_, rfl⟩
          rw [← hW0]
          have HF0 := Lib.hid (show FRow 140 w.heap.size W0.drew (.slice ao pre.length co) pre by rw [hW0]; exact HF.out)
          have HV0 := Lib.hid (show BOwn B W0.drew (.slice (some ⟨g, 0, none⟩) n cap) l by rw [hW0]; exact HVr.out)
          have hS0 : W0.drew.cell? ⟨g, k + 2, none⟩ = some (.int .u8 (x2 : Int)) ∧ Below w.heap.size w W0.drew := ⟨by rw [hW0]; exact d2, (show Below w.heap.size w W0 by rw [hW0]; exact bl_drewN HB.out nq).drew⟩
          have hsz0 : w.heap.size ≤ W0.drew.heap.size := hS0.2.size
          have e2 := hS0.1
          obtain ⟨A4, hA4, hrow4, hsl⟩ := BOwn_mid HV0.out (k + 3) (k + (n - k)) (by omega) (by omega)
          obtain ⟨dl, hdl⟩ : ∃ dl, dl = (l.take (k + (n - k))).drop (k + 3) := ⟨_, rfl⟩
          rw [← hdl] at hrow4
          have HDL := Lib.hid hdl
          have hcap := BOwn_cap HV0.out
          obtain ⟨m4, hm4⟩ : ∃ m4, m4 = n - (k + 3) := ⟨_, rfl⟩
          have hm4' : n - (k + 3) = m4 := hm4.symm
          have HM4 := Lib.hid (show k + (n - k) - (k + 3) = m4 by omega)
          rw [HM4.out] at hrow4
          have HR4 := Lib.hid hrow4
          have t2 : ((k : Int) + 2).toNat = k + 2 := by omega
          have t3 : ((k : Int) + 3).toNat = k + 3 := by omega
          have tn : ((k : Int) + ((n - k : Nat) : Int)).toNat = n := by omega
          have p1 : (0 : Int) ≤ (k : Int) + ((n - k : Nat) : Int) := by omega
          have p2 : (k : Int) + ((n - k : Nat) : Int) ≤ (cap : Int) := by omega
          have p3 : (0 : Int) ≤ (k : Int) + 3 := by omega
          have p4 : (k : Int) + 3 ≤ max ((k : Int) + ((n - k : Nat) : Int)) 0 := by omega
          have q2 : IntKind.i64.wrap ((k : Int) + 2) = (k : Int) + 2 := (by rw [IntKind.wrap_i64]; omega)
          have q3 : IntKind.i64.wrap ((k : Int) + 3) = (k : Int) + 3 := (by rw [IntKind.wrap_i64]; omega)
          have qn : IntKind.i64.wrap ((k : Int) + ((n - k : Nat) : Int)) = (k : Int) + ((n - k : Nat) : Int) := (by rw [IntKind.wrap_i64]; omega)
          have hlen4 : dl.length ≤ 140737488351232 := by rw [hdl]; have := HN.out; simp; omega
          have HL4 := Lib.hid hlen4
          clear d0 d1 d2 hW0 hrow4 hsl hlen4 hm4 hcap hdl
          have hi0 : (0 : Int) ≤ (k : Int) := by omega
          have hi2 : (k : Int) + 2 < (n : Int) := by omega
          have hi3 : decide ((k : Int) + 2 < (n : Int)) = true := decide_eq_true (by omega)
          have hi4 : (0 : Int) ≤ (k : Int) + 2 := by omega
          go_wp2_with fail
          go_region_held3 (fun W' => W'.cell? ⟨g, k + 2, none⟩ = some (.int .u8 (x2 : Int)) ∧ Below w.heap.size w W')
            (first | assumption | exact s2_alloc (by assumption) _)
            (first
            | (go_at_call 24; refine (copy_any _ _ _ (HR4.out _ rfl) HL4.out).mono ?_; rintro e w6 ⟨v6, rfl, ho6, -, hb6⟩; obtain ⟨a6, c6, rfl⟩ := BOwn_form ho6; have HO6 := Lib.hid (ho6.lower hsz0); have HF6 := Lib.hid (FRow_below HF0.out hb6); have HV6 := Lib.hid (HV0.out.below hb6 (Nat.le_refl _)); have hsz6 : w.heap.size ≤ w6.heap.size := Nat.le_trans hsz0 hb6.size; have hS6 : w6.cell? ⟨g, k + 2, none⟩ = some (.int .u8 (x2 : Int)) ∧ Below w.heap.size w w6 := ⟨BOwn_cell HV6.out hx2, hS0.2.trans (hb6.mono hsz0)⟩; clear ho6 hb6)
            | (refine step_append_own rfl _ _ _ rfl w.heap.size 140 i0 (.agg #[.int .u8 0, .slice none 0 0]) 2 32 Try.underlying137 hi hz0 hz1 hz2 rfl (by decide) _ _ _ rfl (HF6.out.1.alloc _) ⟨w6.heap.size, 0, none⟩ 1 1 [.int .u8 (x2 : Int), .slice a6 _ c6] rfl rfl (cells_lit w6 [.int .u8 (x2 : Int), .slice a6 _ c6] _) (by intro u hu; simp at hu; rcases hu with rfl | rfl <;> rfl) (by unfold maxLen; omega) (by omega) (by simp; omega) ?_; intro v7 w7 hown7 hgrow7 _; obtain ⟨hf7, hb7, hv7⟩ := FRow_append (x := (⟨x2, .slice a6 _ c6, dl, 0⟩ : El)) HF6.out ⟨b2, HO6.out⟩ (by decide) hsz6 hown7 hgrow7; obtain ⟨g7, cap7, rfl⟩ := ownsRow_succ hown7; have HF7 := Lib.hid hf7; have hS7 : w7.cell? ⟨g, k + 2, none⟩ = some (.int .u8 (x2 : Int)) ∧ Below w.heap.size w w7 := ⟨BOwn_cell (hv7 _ _ _ HV6.out) hx2, hS6.2.trans hb7⟩; clear hf7 hb7 hv7 hown7 hgrow7)
              | fail)
          go_wp2_with fail
          go_roundw
          case rel =>
            refine ⟨k + (n - k), pre ++ [⟨x2, .slice a6 _ c6, dl, 0⟩], by omega, by go_num, HF7.out, ?_, ?_, hS7.2, by simp; omega⟩
            · intro x hx
              rcases List.mem_append.1 hx with hx | hx
              · exact HE.out x hx
              · simp at hx; subst hx; rfl
            · rw [List.map_append, List.append_assoc, ← HELS.out]
              have he := elsOf_good hne HNB.out
              rw [HH.out, g2, drop_part, ← HDL.out, List.drop_drop] at he
              rw [he]
              rfl
          case measure => simp [intOf]; omega
        · have hhz : ((h0 : Int) == 0) = false := beq_eq_false_iff_ne.2 (by omega)
          have HH := Lib.hid (show hdr (l.drop k) = h0 by unfold hdr; rw [if_pos ⟨by omega, by rw [g0, g1]; omega⟩, g0, g1]; exact hh0)
          by_cases hbd : h0 < 3 ∨ left < h0
          · have hbad : bad (l.drop k) := by unfold bad; rw [HH.out, hln]; exact hbd
            have hEE := elsOf_bad hne hbad
            rw [hEE, El.gh_ok HE.out] at HELS
            have ht := told_err (l := l) (fs := pre.map El.fd) (x := (0, [], 2)) (by decide) (by rw [HELS.out]; exact List.prefix_refl _)
            have HT1 := Lib.hid ht.1
            have HT2 := Lib.hid ht.2.1
            have HBD := Lib.hid hbd
            clear ht hEE hbad hne hbd
            go_wp2_with fail
            go_quiet (fail)
            by_cases h3' : h0 < 3
            all_goals
              first
              | have hd3 : decide ((h0 : Int) < 3) = true := decide_eq_true (by omega)
              | (have hd3 : decide ((h0 : Int) < 3) = false := decide_eq_false (by omega)
                 have hdl : decide (((n - k : Nat) : Int) < (h0 : Int)) = true := decide_eq_true (by have := HBD.out; omega)
                 have hdn : n - k < h0 := by have := HBD.out; omega)
              go_wp2_with fail
              go_ret2
              exact ⟨⟨_, pre, by rw [HT2.out]; try rfl, HF.out, HT1.out.symm⟩, bl_drewN HB.out nq⟩
          · have HNB := Lib.hid (show ¬ bad (l.drop k) by unfold bad; rw [HH.out, hln]; exact hbd)
            have hh3 : 3 ≤ h0 := by omega
            have hhl : h0 ≤ n - k := by omega
            have hd3 : decide ((h0 : Int) < 3) = false := decide_eq_false (by omega)
            have hdl : decide (((n - k : Nat) : Int) < (h0 : Int)) = false := decide_eq_false (by omega)
            have hdn : ¬ n - k < h0 := by omega
            go_wp2_with fail
            go_quiet (fail)
            obtain ⟨W0, hW0⟩ : ∃ W0, W0 = wr.drewN nq := ⟨_, rfl⟩
            rw [← hW0]
            have HF0 := Lib.hid (show FRow 140 w.heap.size W0.drew (.slice ao pre.length co) pre by rw [hW0]; exact HF.out)
            have HV0 := Lib.hid (show BOwn B W0.drew (.slice (some ⟨g, 0, none⟩) n cap) l by rw [hW0]; exact HVr.out)
            have hS0 : W0.drew.cell? ⟨g, k + 2, none⟩ = some (.int .u8 (x2 : Int)) ∧ Below w.heap.size w W0.drew := ⟨by rw [hW0]; exact d2, (show Below w.heap.size w W0 by rw [hW0]; exact bl_drewN HB.out nq).drew⟩
            have hsz0 : w.heap.size ≤ W0.drew.heap.size := hS0.2.size
            have e2 := hS0.1
            obtain ⟨A4, hA4, hrow4, hsl⟩ := BOwn_mid HV0.out (k + 3) (k + h0) (by omega) (by omega)
            obtain ⟨dl, hdl⟩ : ∃ dl, dl = (l.take (k + h0)).drop (k + 3) := ⟨_, rfl⟩
            rw [← hdl] at hrow4
            have HDL := Lib.hid hdl
            have hcap := BOwn_cap HV0.out
            obtain ⟨jj, hjj⟩ : ∃ jj, jj = k + h0 := ⟨_, rfl⟩
            obtain ⟨m4, hm4⟩ : ∃ m4, m4 = jj - (k + 3) := ⟨_, rfl⟩
            have hm4' : jj - (k + 3) = m4 := hm4.symm
            have HM4 := Lib.hid (show k + h0 - (k + 3) = m4 by omega)
            rw [HM4.out] at hrow4
            have HR4 := Lib.hid hrow4
            have t2 : ((k : Int) + 2).toNat = k + 2 := by omega
            have t3 : ((k : Int) + 3).toNat = k + 3 := by omega
            have tn : ((k : Int) + (h0 : Int)).toNat = jj := by omega
            have p1 : (0 : Int) ≤ (k : Int) + (h0 : Int) := by omega
            have p2 : (k : Int) + (h0 : Int) ≤ (cap : Int) := by omega
            have p3 : (0 : Int) ≤ (k : Int) + 3 := by omega
            have p4 : (k : Int) + 3 ≤ max ((k : Int) + (h0 : Int)) 0 := by omega
            have p5 : (k : Int) + 3 ≤ (jj : Int) := by omega
            have q2 : IntKind.i64.wrap ((k : Int) + 2) = (k : Int) + 2 := (by rw [IntKind.wrap_i64]; omega)
            have q3 : IntKind.i64.wrap ((k : Int) + 3) = (k : Int) + 3 := (by rw [IntKind.wrap_i64]; omega)
            have qn : IntKind.i64.wrap ((k : Int) + (h0 : Int)) = (k : Int) + (h0 : Int) := (by rw [IntKind.wrap_i64]; omega)
            have hlen4 : dl.length ≤ 140737488351232 := by rw [hdl]; have := HN.out; simp; omega
            have HL4 := Lib.hid hlen4
            clear d0 d1 d2 hW0 hrow4 hsl hlen4 hm4 hcap hdl hjj
            have hi0 : (0 : Int) ≤ (k : Int) := by omega
            have hi2 : (k : Int) + 2 < (n : Int) := by omega
            have hi3 : decide ((k : Int) + 2 < (n : Int)) = true := decide_eq_true (by omega)
            have hi4 : (0 : Int) ≤ (k : Int) + 2 := by omega
            go_wp2_with fail
            go_region_held3 (fun W' => W'.cell? ⟨g, k + 2, none⟩ = some (.int .u8 (x2 : Int)) ∧ Below w.heap.size w W')
              (first | assumption | exact s2_alloc (by assumption) _)
              (first
              | (go_at_call 24; refine (copy_any _ _ _ (HR4.out _ rfl) HL4.out).mono ?_; rintro e w6 ⟨v6, rfl, ho6, -, hb6⟩; obtain ⟨a6, c6, rfl⟩ := BOwn_form ho6; have HO6 := Lib.hid (ho6.lower hsz0); have HF6 := Lib.hid (FRow_below HF0.out hb6); have HV6 := Lib.hid (HV0.out.below hb6 (Nat.le_refl _)); have hsz6 : w.heap.size ≤ w6.heap.size := Nat.le_trans hsz0 hb6.size; have hS6 : w6.cell? ⟨g, k + 2, none⟩ = some (.int .u8 (x2 : Int)) ∧ Below w.heap.size w w6 := ⟨BOwn_cell HV6.out hx2, hS0.2.trans (hb6.mono hsz0)⟩; clear ho6 hb6)
              | (refine step_append_own rfl _ _ _ rfl w.heap.size 140 i0 (.agg #[.int .u8 0, .slice none 0 0]) 2 32 Try.underlying137 hi hz0 hz1 hz2 rfl (by decide) _ _ _ rfl (HF6.out.1.alloc _) ⟨w6.heap.size, 0, none⟩ 1 1 [.int .u8 (x2 : Int), .slice a6 _ c6] rfl rfl (cells_lit w6 [.int .u8 (x2 : Int), .slice a6 _ c6] _) (by intro u hu; simp at hu; rcases hu with rfl | rfl <;> rfl) (by unfold maxLen; omega) (by omega) (by simp; omega) ?_; intro v7 w7 hown7 hgrow7 _; obtain ⟨hf7, hb7, hv7⟩ := FRow_append (x := (⟨x2, .slice a6 _ c6, dl, 0⟩ : El)) HF6.out ⟨b2, HO6.out⟩ (by decide) hsz6 hown7 hgrow7; obtain ⟨g7, cap7, rfl⟩ := ownsRow_succ hown7; have HF7 := Lib.hid hf7; have hS7 : w7.cell? ⟨g, k + 2, none⟩ = some (.int .u8 (x2 : Int)) ∧ Below w.heap.size w w7 := ⟨BOwn_cell (hv7 _ _ _ HV6.out) hx2, hS6.2.trans hb7⟩; clear hf7 hb7 hv7 hown7 hgrow7)
              | fail)
            go_wp2_with fail
            go_roundw
            case rel =>
              refine ⟨k + h0, pre ++ [⟨x2, .slice a6 _ c6, dl, 0⟩], by omega, by go_num, HF7.out, ?_, ?_, hS7.2, by simp; omega⟩
              · intro x hx
                rcases List.mem_append.1 hx with hx | hx
                · exact HE.out x hx
                · simp at hx; subst hx; rfl
              · rw [List.map_append, List.append_assoc, ← HELS.out]
                have he := elsOf_good hne HNB.out
                rw [HH.out, g2, drop_part, ← HDL.out, List.drop_drop] at he
                rw [he]
                rfl
            case measure => simp [intOf]; omega
    · go_wp2_with fail
      go_ret2
      have hkn : k = n := by omega
      have hd : l.drop k = [] := List.drop_eq_nil_of_le (by rw [hkn, HN.out]; exact Nat.le_refl _)
      have hfin := HELS.out
      rw [hd, elsOf_nil, List.append_nil, El.gh_ok HE.out] at hfin
      obtain ⟨h1, h2⟩ := told_all hfin
      exact ⟨⟨_, pre, by rw [h2]; try rfl, HF.out, h1.symm⟩, HB.out⟩
end Go.Proofs.Ytcibhchbgendaab.Sf
