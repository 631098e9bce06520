/- The walk of the law PageNumbers. -/
import Derived.Test.YtcibhchbgendaabPgNumbers
import Derived.Test.YtcibhchbgendaabPgNil
import Derived.Test.YtcibhchbgendaabLaw01
import Derived.Test.YtcibhchbgendaabShelf
import Derived.Maps.AppendAt
import Derived.Deep.RegionHeld3
namespace Go.Proofs.Ytcibhchbgendaab.L1
open Go Go.RowKit Go.Shelf Go.Proofs.Ytcibhchbgendaab.Pg Go.Proofs.Ytcibhchbgendaab.Rf Go.Proofs.Ytcibhchbgendaab.Cl
attribute [local go_sem] Oper.semAt_some

theorem boxed_own2 (B : Nat) (t : TypeId) (v : Value) : Own (fun (_ : List Int) W => Boxed W B t v) := fun _ _ _ _ hs hg hr => hs.kept hg (fun e => by
  obtain ⟨o, ho, hc⟩ := hr B e.symm
  unfold Boxed at hs
  rw [hs] at ho
  cases ho
  cases hc)

theorem nums_any (w : World) : Calls Try.prog 47 #[] w fun e w' => e = .returned (.slice (some ⟨w.heap.size, 0, none⟩) 6 6) ∧ w' = w.alloc (.cells sixV 3) := by
  go_enter Try.func47, Try.ntmps47
  go_wp2
  go_ret
  exact ⟨rfl, rfl⟩
theorem six_cell {i : Nat} {k : Int} (h : six[i]? = some k) : sixV[i]? = some (.int .i64 k) := by
  show (six.map (Value.int .i64)).toArray[i]? = _
  rw [List.getElem?_toArray, List.getElem?_map, h]
  rfl
theorem eq6 (r g cap q : Nat) (hr : r < 6) (W : World) (hrow : ∃ B, W.ownsRow B 3 1 (.slice (some ⟨g, 0, none⟩) (r + 1) cap) (r + 1) ((six.take (r + 1)).map (Value.int .i64))) (hq : Bk W q 3 sixV) :
    Calls Try.prog 46 #[.slice (some ⟨g, 0, none⟩) (r + 1) cap, .slice (some ⟨q, 0, none⟩) (r + 1) 6] W fun e w' => e = .returned (.bool true) ∧ ∃ q, w' = W.drewN q := by
  have hlen : (six.take (r + 1)).length = r + 1 := by simp [six]; omega
  refine (Try.slices_Equal_int g 0 (r + 1) cap q 0 (r + 1) 6 (six.take (r + 1)) six W (by omega) (by simp [six]; omega) (by omega) (by omega) ?_ ?_).mono ?_
  · intro j hj
    obtain ⟨B, hl, h | ⟨g', cap', cur, h1, h2, h3, h4, h5, h6, h7⟩⟩ := hrow
    · cases h.1
    · injection h1 with h1 _ hcap
      injection h1 with h1
      injection h1 with h1
      subst h1 hcap
      rw [cell_of_row W g (0 + j) cur _ (0, 0) h3]
      have e : (cur.toList.take ((r + 1) * 1))[j]? = ((six.take (r + 1)).map (Value.int .i64))[j]? := by rw [h7]
      rw [List.getElem?_take, if_pos (by omega), List.getElem?_map, List.getElem?_eq_getElem hj] at e
      rw [Nat.zero_add, ← Array.getElem?_toList, e, List.getD_eq_getElem?_getD, List.getElem?_eq_getElem hj]
      rfl
  · intro j hj
    rw [Nat.zero_add]
    refine hq.cellv (six_cell ?_)
    rw [List.getD_eq_getElem?_getD, List.getElem?_eq_getElem hj]
    rfl
  · rintro e w' ⟨rfl, hq⟩
    refine ⟨?_, hq⟩
    congr 2
    rw [List.take_take, Nat.min_self]
    simp

theorem eq6S {w : World} {A B : Addr} {a b : Value} {D : Nat} {d : Obj} {B0 : Nat} (r g cap q : Nat) (hr : r < 6) (W : World) (h : W.cell? A = some a ∧ W.cell? B = some b ∧ W.ownsRow B0 3 1 (.slice (some ⟨g, 0, none⟩) (r + 1) cap) (r + 1) ((six.take (r + 1)).map (Value.int .i64)) ∧ Below w.heap.size w W ∧ W.heap[D]? = some d) (hq : Bk W q 3 sixV) :
    Calls Try.prog 46 #[.slice (some ⟨g, 0, none⟩) (r + 1) cap, .slice (some ⟨q, 0, none⟩) (r + 1) 6] W fun e w' => e = .returned (.bool true) ∧ ∃ q, w' = W.drewN q :=
  eq6 r g cap q hr W ⟨_, h.2.2.1⟩ hq

/-- what holds while the last statement is worked out -/
theorem st_alloc {w W : World} {A B : Addr} {a b v : Value} {B0 k D : Nat} {xs : List Value} {d : Obj} (h : W.cell? A = some a ∧ W.cell? B = some b ∧ W.ownsRow B0 3 1 v k xs ∧ Below w.heap.size w W ∧ W.heap[D]? = some d) (o : Obj) :
    (W.alloc o).cell? A = some a ∧ (W.alloc o).cell? B = some b ∧ (W.alloc o).ownsRow B0 3 1 v k xs ∧ Below w.heap.size w (W.alloc o) ∧ (W.alloc o).heap[D]? = some d := by
  obtain ⟨h1, h2, h3, h4, h5⟩ := h
  have hc : ∀ (p : Addr) (x : Value), W.cell? p = some x → (W.alloc o).cell? p = some x := fun p x hp => (World.cell?_alloc_lt _ _ _ (World.block_lt_of_cell? W p hp)).trans hp
  exact ⟨hc _ _ h1, hc _ _ h2, h3.alloc _, h4.alloc h4.size _, (Below.heap_alloc W o D (Array.getElem?_eq_some_iff.1 h5).1).trans h5⟩
theorem st_drew {w W : World} {A B : Addr} {a b v : Value} {B0 k D : Nat} {xs : List Value} {d : Obj} (h : W.cell? A = some a ∧ W.cell? B = some b ∧ W.ownsRow B0 3 1 v k xs ∧ Below w.heap.size w W ∧ W.heap[D]? = some d) :
    W.drew.cell? A = some a ∧ W.drew.cell? B = some b ∧ W.drew.ownsRow B0 3 1 v k xs ∧ Below w.heap.size w W.drew ∧ W.drew.heap[D]? = some d :=
  ⟨h.1, h.2.1, h.2.2.1, h.2.2.2.1.drew, h.2.2.2.2⟩
theorem st_drewN {w W : World} {A B : Addr} {a b v : Value} {B0 k D : Nat} {xs : List Value} {d : Obj} (h : W.cell? A = some a ∧ W.cell? B = some b ∧ W.ownsRow B0 3 1 v k xs ∧ Below w.heap.size w W ∧ W.heap[D]? = some d) (n : Nat) :
    (W.drewN n).cell? A = some a ∧ (W.drewN n).cell? B = some b ∧ (W.drewN n).ownsRow B0 3 1 v k xs ∧ Below w.heap.size w (W.drewN n) ∧ (W.drewN n).heap[D]? = some d :=
  ⟨h.1, h.2.1, h.2.2.1, bl_drewN h.2.2.2.1 n, h.2.2.2.2⟩

theorem new_either (k : Int) (w : World) : Calls Try.prog 42 #[.int .i64 k] w fun e w' => ∃ p x, e = .returned (.tuple #[p, .int .i64 x]) ∧
    ((IsNum k ∧ x = 0 ∧ ∃ b, p = .pointer (some ⟨b, 0, none⟩)) ∨ (¬ IsNum k ∧ x = 5 ∧ p = .pointer none)) ∧ Below w.heap.size w w' := by
  by_cases hk : IsNum k
  · refine (new_any k hk w).mono ?_
    rintro e w' ⟨b, rfl, _, _, h⟩
    exact ⟨_, _, rfl, .inl ⟨hk, rfl, b, rfl⟩, h⟩
  · refine (new_no k hk w).mono ?_
    rintro e w' ⟨rfl, rfl⟩
    exact ⟨_, _, rfl, .inr ⟨hk, rfl, rfl⟩, Below.refl _ _⟩

set_option maxRecDepth 100000 in
set_option maxHeartbeats 8000000 in
theorem pageNumbers_walk (number : Int) (s : Nat) (hs : s < 256) (w : World) :
    Calls Try.prog 8 #[.int .i64 number, .int .u8 s] w fun e w' => e = .returned (.bool true) ∧ Below w.heap.size w w' := by
  have hnot : ∀ (x : Bool) (w : World), (Op.unary .not (.bool x)).run Try.prog w = .ok (.bool (!x)) w := fun _ _ => rfl
  obtain ⟨i0, hi, hz0, hz1, hz2⟩ := info_parts int_info
  obtain ⟨r, hr, hr6⟩ : ∃ r : Nat, (s : Int) % 6 = r ∧ r < 6 := ⟨s % 6, by omega, by omega⟩
  refine callsIn_wide.1 (callsIn_of_wp_marks (n := 8) Try.func8 rfl trivial ?_ rfl)
  simp only [Try.ntmps8, List.size_toArray, List.length_cons, List.length_nil, Nat.reduceAdd, Nat.reduceSub, Array.replicate_succ, Array.replicate_zero, List.push_toArray, List.append_toArray, List.nil_append, List.cons_append]
  refine wpIn_wide.2 ?_
  go_wp2_with fail
  refine (awake_any _).mono ?_
  rintro e w1 ⟨rfl, h1⟩
  have HW1 := Lib.hid h1
  clear h1
  go_wp2_with fail
  refine (new_either number _).mono ?_
  rintro e w2 ⟨p, x, rfl, hp, h2⟩
  have HP := Lib.hid hp
  have HW2 := Lib.hid (HW1.out.trans (h2.mono HW1.out.size))
  clear hp h2
  go_wp2_with go_in
  obtain ⟨wo, hwo⟩ : ∃ wo : World, (w2.alloc (.cells #[.int .i64 (1 + (r : Int))] 3)).alloc (.cells #[.slice none 0 0] 65) = wo := ⟨_, rfl⟩
  have hB7 : Boxed wo w2.heap.size 3 (.int .i64 (1 + (r : Int))) := by rw [← hwo]; exact (Boxed.new _ _ _).alloc _
  have hB8 : Boxed wo (w2.heap.size + 1) 65 (.slice none 0 0) := by
    rw [← hwo]
    have h := Boxed.new (w2.alloc (.cells #[.int .i64 (1 + (r : Int))] 3)) 65 (.slice none 0 0)
    rwa [World.size_alloc] at h
  have hWo : Below w.heap.size w wo := by rw [← hwo]; exact (HW2.out.alloc HW2.out.size _).alloc (by have := HW2.out.size; simp; omega) _
  have hsz : wo.heap.size = w2.heap.size + 2 := by rw [← hwo]; simp
  have hw2s : w.heap.size ≤ w2.heap.size := HW2.out.size
  rw [hwo]
  clear hwo
  refine (wpIn_wide (n := 8)).1 ?_
  refine wpIn_rangeFunc_ownF rfl (by omega) (gf := 68) (lb := #[]) rfl trivial (enters_of Try.func68 (by kernel_rfl) rfl)
    (numbers_stops Fence.wide _ trivial rfl (by omega) wo) walksK_t walksK_b (Below.refl _ _) (fun _ => rfl)
    (fun pre W => (∃ v, Boxed W (w2.heap.size + 1) 65 v ∧ W.ownsRow (w2.heap.size + 1) 3 1 v pre.length (pre.map (Value.int .i64)) ∧ True) ∧ Boxed W w2.heap.size 3 (.int .i64 (1 + (r : Int))) ∧ Below w.heap.size w W ∧ pre.length < r + 1)
    (fun c pre W => (∃ v, Boxed W (w2.heap.size + 1) 65 v ∧ W.ownsRow (w2.heap.size + 1) 3 1 v pre.length (pre.map (Value.int .i64)) ∧ True) ∧ Boxed W w2.heap.size 3 (.int .i64 (1 + (r : Int))) ∧ Below w.heap.size w W ∧ (c = .exit 0 ∧ pre.length = r + 1))
    (OwnFrom.and (Own.from (holdsRow_own (w2.heap.size + 1) (w2.heap.size + 1) 65 3 1 (fun pre : List Int => pre.length) (fun pre => pre.map (Value.int .i64)) (fun _ _ => True)) _) (OwnFrom.and ((boxed_own2 _ _ _).from _) (OwnFrom.and (ownFrom_below (Nat.le_refl _) (by omega)) (fun _ _ _ _ hs _ _ => hs))))
    (fun c => OwnFrom.and (Own.from (holdsRow_own (w2.heap.size + 1) (w2.heap.size + 1) 65 3 1 (fun pre : List Int => pre.length) (fun pre => pre.map (Value.int .i64)) (fun _ _ => True)) _) (OwnFrom.and ((boxed_own2 _ _ _).from _) (OwnFrom.and (ownFrom_below (Nat.le_refl _) (by omega)) (fun _ _ _ _ hs _ _ => hs))))
    ⟨⟨_, hB8, World.ownsRow_nil _ _ _ _, trivial⟩, hB7, hWo, by simp⟩ ?a1 ?assign ?body ?done ?stop
  case assign =>
    intro l x W Kc hKc
    gi_wp2
    exact hKc
  case body =>
    rintro l pre x W ⟨⟨v, hv, hrow, _⟩, h7, hB, hlen⟩ _
    have hc := hv.cell
    have hf := hv.frozen
    have hc7 := h7.cell
    have hsW := hB.size
    have hle : w2.heap.size + 1 ≤ W.heap.size := by have := h7.lt; omega
    by_cases hlast : pre.length = r
    · have HLAST := Lib.hid hlast
      have hbeq : ((pre.length : Int) + 1 == 1 + (r : Int)) = true := beq_iff_eq.2 (by omega)
      have hbeq2 : ((pre.length : Int) + 1 = 1 + (r : Int)) := by omega
      clear hlast
      gi_wp2_with (gi_at_builtin; refine wpListIn_append_own _ rfl _ _ 65 rfl (w2.heap.size + 1) 3 i0 (.int .i64 0) 1 8 Try.underlying65 hi hz0 hz1 hz2 rfl (by decide) _ _ _ rfl (hrow.alloc _) ⟨W.heap.size, 0, none⟩ 1 1 [.int .i64 x] rfl rfl (cell_one_new _ _ _) (by simp [Value.oneCell']) (by unfold maxLen; omega) (by omega) (by simp; omega) ?_; intro v' w1 hown' hgrow _; obtain ⟨g', cap', rfl⟩ := ownsRow_succ hown'; obtain ⟨hv1, hv2, hr2, hk2, hb2⟩ := hv.appended (by decide) hrow hle (by omega) hown' hgrow; have hc1 := hv1.cell; have hf1 := hv1.frozen; have hc2 := hv2.cell; have h72 : Boxed _ w2.heap.size 3 (.int .i64 (1 + (r : Int))) := (hb2.block w2.heap.size (by omega)).trans h7; have hc72 := h72.cell)
      exact ⟨hk2, ⟨_, hv2, by simpa using hr2, trivial⟩, h72, hB.trans (hb2.mono (by omega)), rfl, by simp [HLAST.out]⟩
    · gi_wp2_with (gi_at_builtin; refine wpListIn_append_own _ rfl _ _ 65 rfl (w2.heap.size + 1) 3 i0 (.int .i64 0) 1 8 Try.underlying65 hi hz0 hz1 hz2 rfl (by decide) _ _ _ rfl (hrow.alloc _) ⟨W.heap.size, 0, none⟩ 1 1 [.int .i64 x] rfl rfl (cell_one_new _ _ _) (by simp [Value.oneCell']) (by unfold maxLen; omega) (by omega) (by simp; omega) ?_; intro v' w1 hown' hgrow _; obtain ⟨g', cap', rfl⟩ := ownsRow_succ hown'; obtain ⟨hv1, hv2, hr2, hk2, hb2⟩ := hv.appended (by decide) hrow hle (by omega) hown' hgrow; have hc1 := hv1.cell; have hf1 := hv1.frozen; have hc2 := hv2.cell; have h72 : Boxed _ w2.heap.size 3 (.int .i64 (1 + (r : Int))) := (hb2.block w2.heap.size (by omega)).trans h7; have hc72 := h72.cell)
      exact ⟨hk2, hk2.walks, ⟨_, hv2, by simpa using hr2, trivial⟩, h72, hB.trans (hb2.mono (by omega)), by simp; omega⟩
  case done =>
    rintro D ys W hD rfl ⟨_, _, _, hlen⟩ _
    simp [six] at hlen
    omega
  case stop =>
    rintro D c pre W hD hSp ⟨⟨v, hv, hrow, _⟩, h7, hB, rfl, hlen⟩ hKd
    have hpre : pre = six.take (r + 1) := by
      rw [List.prefix_iff_eq_take] at hSp
      rw [← hlen]
      exact hSp
    have HV := Lib.hid hv
    have HROW := Lib.hid hrow
    have H7 := Lib.hid h7
    have HB := Lib.hid hB
    have HKD := Lib.hid hKd
    have HPRE := Lib.hid hpre
    have HLEN := Lib.hid hlen
    have HD := Lib.hid hD
    clear hv hrow h7 hB hKd hpre hlen hD hB7 hB8 hWo
    refine wpIn_wide.2 ?_
    go_wp2_with fail
    refine (nilCode 65 _).mono ?_
    rintro e w3 ⟨rfl, rfl⟩
    go_wp2_with fail
    refine (nilCodes _ _).mono ?_
    rintro e w4 ⟨rfl, rfl⟩
    go_wp2_with fail
    rcases HP.out with ⟨hk, rfl, b, rfl⟩ | ⟨hk, rfl, rfl⟩
    · refine (is_any number hk _).mono ?_
      rintro e w5 ⟨rfl, rfl⟩
      go_wp2_with fail
      obtain ⟨g, cap, hvv⟩ : ∃ g cap, v = .slice (some ⟨g, 0, none⟩) (r + 1) cap := by
        have h := HROW.out
        rw [HLEN.out] at h
        exact ownsRow_succ h
      subst hvv
      have hc8 := HV.out.cell
      have hc7 := H7.out.cell
      have hS : w5.drew.cell? ⟨w2.heap.size + 1, 0, none⟩ = some (.slice (some ⟨g, 0, none⟩) (r + 1) cap) ∧ w5.drew.cell? ⟨w2.heap.size, 0, none⟩ = some (.int .i64 (1 + (r : Int))) ∧ w5.drew.ownsRow (w2.heap.size + 1) 3 1 (.slice (some ⟨g, 0, none⟩) (r + 1) cap) (r + 1) ((six.take (r + 1)).map (Value.int .i64)) ∧ Below w.heap.size w w5.drew ∧ w5.drew.heap[D]? = some (.deferred (some [])) := by
        have h := HROW.out
        rw [HLEN.out, HPRE.out] at h
        exact ⟨hc8, hc7, h, HB.out.drew, HKD.out⟩
      have HQ := Lib.hid (show Bk (w5.alloc (.cells sixV 3)).drew w5.heap.size 3 sixV from Bk.new w5 _ _)
      have HSA := Lib.hid (st_alloc (W := w5) (w := w) (d := .deferred (some [])) (D := D) ⟨hc8, hc7, hS.2.2.1, HB.out, HKD.out⟩ (.cells sixV 3))
      have HSQ := Lib.hid (st_drew (st_alloc (W := w5) (w := w) (d := .deferred (some [])) (D := D) ⟨hc8, hc7, hS.2.2.1, HB.out, HKD.out⟩ (.cells sixV 3)))
      clear hc8 hc7
      have hto : (1 + (r : Int)).toNat = r + 1 := by omega
      have hb0 : (0 : Int) ≤ 1 + (r : Int) := by omega
      have hb6 : 1 + (r : Int) ≤ 6 := by omega
      first
      | (go_loud (go_region_held3 (fun w' => w'.cell? ⟨w2.heap.size + 1, 0, none⟩ = some (.slice (some ⟨g, 0, none⟩) (r + 1) cap) ∧ w'.cell? ⟨w2.heap.size, 0, none⟩ = some (.int .i64 (1 + (r : Int))) ∧ w'.ownsRow (w2.heap.size + 1) 3 1 (.slice (some ⟨g, 0, none⟩) (r + 1) cap) (r + 1) ((six.take (r + 1)).map (Value.int .i64)) ∧ Below w.heap.size w w' ∧ w'.heap[D]? = some (.deferred (some [])))
          (first | assumption | exact st_drewN HSA.out _ | exact st_drewN (st_alloc HSA.out _) _ | exact st_alloc (st_drewN HSA.out _) _ | exact st_alloc (by assumption) _ | exact st_drewN (by assumption) _)
          (first
          | (go_at_call 47; refine (nums_any _).mono ?_; rintro e w6 ⟨rfl, rfl⟩)
          | (go_at_call 46; refine (eq6S r g cap _ hr6 _ HSQ.out HQ.out).mono ?_; rintro e w7 ⟨rfl, q7, rfl⟩)
          | (go_at_call 48; refine (nilNumber _).mono ?_; rintro e w6 ⟨rfl, rfl⟩)
          | (go_at_call 49; refine (nilSign 1 _).mono ?_; rintro e w6 ⟨rfl, rfl⟩)
          | (go_at_call 25; refine (nilText _ _).mono ?_; rintro e w6 ⟨rfl, rfl⟩)
          | (go_at_call 50; refine (nilUpper 7 _).mono ?_; rintro e w6 ⟨rfl, rfl⟩))))
      | fail
      go_wp2_with fail
      have HF := st_alloc (st_drewN HSA.out (1 + q7)) (.cells #[.int .u8 1] 5)
      refine ⟨by simp, .inl ⟨_, _, rfl, run_takeDeferred HF.2.2.2.2, ?_⟩⟩
      exact ⟨_, results_tmp rfl _ _ _, rfl, HF.2.2.2.1.trans (belowK_b (w := w) (Nat.le_refl _) _ D _ _ (by have := HD.out; omega) HF.2.2.2.2 rfl rfl)⟩
    · refine (is_no number hk _).mono ?_
      rintro e w5 ⟨rfl, rfl⟩
      go_wp2_with fail
      obtain ⟨g, cap, hvv⟩ : ∃ g cap, v = .slice (some ⟨g, 0, none⟩) (r + 1) cap := by
        have h := HROW.out
        rw [HLEN.out] at h
        exact ownsRow_succ h
      subst hvv
      have hc8 := HV.out.cell
      have hc7 := H7.out.cell
      have hS : w5.drew.cell? ⟨w2.heap.size + 1, 0, none⟩ = some (.slice (some ⟨g, 0, none⟩) (r + 1) cap) ∧ w5.drew.cell? ⟨w2.heap.size, 0, none⟩ = some (.int .i64 (1 + (r : Int))) ∧ w5.drew.ownsRow (w2.heap.size + 1) 3 1 (.slice (some ⟨g, 0, none⟩) (r + 1) cap) (r + 1) ((six.take (r + 1)).map (Value.int .i64)) ∧ Below w.heap.size w w5.drew ∧ w5.drew.heap[D]? = some (.deferred (some [])) := by
        have h := HROW.out
        rw [HLEN.out, HPRE.out] at h
        exact ⟨hc8, hc7, h, HB.out.drew, HKD.out⟩
      have HQ := Lib.hid (show Bk (w5.alloc (.cells sixV 3)).drew w5.heap.size 3 sixV from Bk.new w5 _ _)
      have HSA := Lib.hid (st_alloc (W := w5) (w := w) (d := .deferred (some [])) (D := D) ⟨hc8, hc7, hS.2.2.1, HB.out, HKD.out⟩ (.cells sixV 3))
      have HSQ := Lib.hid (st_drew (st_alloc (W := w5) (w := w) (d := .deferred (some [])) (D := D) ⟨hc8, hc7, hS.2.2.1, HB.out, HKD.out⟩ (.cells sixV 3)))
      clear hc8 hc7
      have hto : (1 + (r : Int)).toNat = r + 1 := by omega
      have hb0 : (0 : Int) ≤ 1 + (r : Int) := by omega
      have hb6 : 1 + (r : Int) ≤ 6 := by omega
      first
      | (go_loud (go_region_held3 (fun w' => w'.cell? ⟨w2.heap.size + 1, 0, none⟩ = some (.slice (some ⟨g, 0, none⟩) (r + 1) cap) ∧ w'.cell? ⟨w2.heap.size, 0, none⟩ = some (.int .i64 (1 + (r : Int))) ∧ w'.ownsRow (w2.heap.size + 1) 3 1 (.slice (some ⟨g, 0, none⟩) (r + 1) cap) (r + 1) ((six.take (r + 1)).map (Value.int .i64)) ∧ Below w.heap.size w w' ∧ w'.heap[D]? = some (.deferred (some [])))
          (first | assumption | exact st_drewN HSA.out _ | exact st_drewN (st_alloc HSA.out _) _ | exact st_alloc (st_drewN HSA.out _) _ | exact st_alloc (by assumption) _ | exact st_drewN (by assumption) _)
          (first
          | (go_at_call 47; refine (nums_any _).mono ?_; rintro e w6 ⟨rfl, rfl⟩)
          | (go_at_call 46; refine (eq6S r g cap _ hr6 _ HSQ.out HQ.out).mono ?_; rintro e w7 ⟨rfl, q7, rfl⟩)
          | (go_at_call 48; refine (nilNumber _).mono ?_; rintro e w6 ⟨rfl, rfl⟩)
          | (go_at_call 49; refine (nilSign 1 _).mono ?_; rintro e w6 ⟨rfl, rfl⟩)
          | (go_at_call 25; refine (nilText _ _).mono ?_; rintro e w6 ⟨rfl, rfl⟩)
          | (go_at_call 50; refine (nilUpper 7 _).mono ?_; rintro e w6 ⟨rfl, rfl⟩))))
      | fail
      go_wp2_with fail
      have HF := st_alloc (st_drewN HSA.out (1 + q7)) (.cells #[.int .u8 1] 5)
      refine ⟨by simp, .inl ⟨_, _, rfl, run_takeDeferred HF.2.2.2.2, ?_⟩⟩
      exact ⟨_, results_tmp rfl _ _ _, rfl, HF.2.2.2.1.trans (belowK_b (w := w) (Nat.le_refl _) _ D _ _ (by have := HD.out; omega) HF.2.2.2.2 rfl rfl)⟩

theorem byte_nat4 {x : Int} (h : (Lit.int .u8 x).wf = true) : ∃ n : Nat, n < 256 ∧ x = n := by
  simp only [Lit.wf, show IntKind.u8.min = 0 from rfl, show IntKind.u8.max = 255 from rfl] at h
  simp only [Bool.and_eq_true, decide_eq_true_eq] at h
  exact ⟨x.toNat, by omega, by omega⟩
theorem pageNumbers_any (k x : Int) (_hk : (Lit.int .i64 k).wf = true) (hx : (Lit.int .u8 x).wf = true) (w : World) :
    Calls Try.prog 8 #[.int .i64 k, .int .u8 x] w fun e w' => e = .returned (.bool true) ∧ Below w.heap.size w w' := by
  obtain ⟨n, hn, rfl⟩ := byte_nat4 hx
  exact pageNumbers_walk k n hn w
end Go.Proofs.Ytcibhchbgendaab.L1
