/- The walk of class.Count. -/
import Derived.Test.YtcibhchbgendaabClUse
import Derived.Test.YtcibhchbgendaabBy
import Derived.Laws.StructEq
namespace Go.Proofs.Ytcibhchbgendaab.Cl
open Go Go.RowKit Go.Proofs.Ytcibhchbgendaab.Pg Go.Proofs.Ytcibhchbgendaab.By

/-- eight counts, one more in one of them -/
def bump (f : Nat → Int) (i : Nat) : Nat → Int := fun j => if j = i then wrap64 (f j + 1) else f j
def countOf (k : Int) (l : List Nat) : Nat → Int := l.foldl (fun f c => bump f (classOf k c).toNat) (fun _ => 0)
def cells8 (f : Nat → Int) : Array Value := #[.int .i64 (f 0), .int .i64 (f 1), .int .i64 (f 2), .int .i64 (f 3), .int .i64 (f 4), .int .i64 (f 5), .int .i64 (f 6), .int .i64 (f 7)]
theorem cells8_bump (f : Nat → Int) (i : Nat) (hi : i < 8) : (cells8 f).setIfInBounds i (.int .i64 (wrap64 (f i + 1))) = cells8 (bump f i) := by
  have h : i = 0 ∨ i = 1 ∨ i = 2 ∨ i = 3 ∨ i = 4 ∨ i = 5 ∨ i = 6 ∨ i = 7 := by omega
  rcases h with rfl | rfl | rfl | rfl | rfl | rfl | rfl | rfl <;> rfl
theorem cells8_at (f : Nat → Int) (i : Nat) (hi : i < 8) : (cells8 f)[i]? = some (.int .i64 (f i)) := by
  have h : i = 0 ∨ i = 1 ∨ i = 2 ∨ i = 3 ∨ i = 4 ∨ i = 5 ∨ i = 6 ∨ i = 7 := by omega
  rcases h with rfl | rfl | rfl | rfl | rfl | rfl | rfl | rfl <;> rfl
theorem countOf_snoc (k : Int) (l : List Nat) (c : Nat) : countOf k (l ++ [c]) = bump (countOf k l) (classOf k c).toNat := by
  unfold countOf
  rw [List.foldl_append]
  rfl
theorem take_snoc' (l : List Nat) (j : Nat) (hj : j < l.length) : l.take (j + 1) = l.take j ++ [l[j]] := by simp
theorem class_nat (k : Int) (c : Nat) : ∃ m : Nat, classOf k c = m ∧ m < 8 ∧ (classOf k c).toNat = m := by
  have h := classOf_range k c
  exact ⟨(classOf k c).toNat, by omega, by omega, rfl⟩

theorem BRow_step {w w' : World} {x : Value} {l : List Nat} (h : BRow w x l) (ho : ∀ a n c, x = .slice (some a) n c → ∀ cs, ¬ Bk w a.block 122 cs) (s : PgStep w w') : BRow w' x l := by
  rcases h.lt with rfl | hlt
  · rcases h with h | ⟨a, cap, h1, h2, h3, _, h5⟩
    · exact .inl h
    · exact .inr ⟨a, cap, h1, h2, h3, fun i n hi => by simp at hi, h5⟩
  · exact h.keep fun a n c e => s.keep _ (hlt a n c e) (ho a n c e)
theorem PgStep.set {w w' : World} (h : PgStep w w') {p : Addr} (hp : w.heap.size ≤ p.block) (u : Value) : PgStep w (w'.setCell p u) :=
  ⟨h.os, h.tape, h.output, by simpa [World.setCell] using h.size, fun i hi hn => (Below.heap_setCell w' p u i (by omega)).trans (h.keep i hi hn), fun i cs hc => by
    obtain ⟨cs', h'⟩ := h.page i cs hc
    have hlt := hc.lt
    exact ⟨cs', h'.far (by omega) u⟩⟩
theorem PgStep.alloc {w w' : World} (h : PgStep w w') (o : Obj) : PgStep w (w'.alloc o) := h.trans (PgStep.below ((Below.refl _ _).alloc (Nat.le_refl _) _))
theorem PgV.set {B : Nat} {w : World} {v : Value} {k : Int} (h : PgV B w v k) {g : Nat} {t : TypeId} {cs : Array Value} (hg : Bk w g t cs) (ht : t ≠ 122) {i : Nat} {x : Value} (hi : cs[i]? = some x) (u : Value) : PgV B (w.setCell ⟨g, i, none⟩ u) v k := by
  rcases h with h | ⟨b, h1, h2, h3⟩
  · exact .inl h
  · refine .inr ⟨b, h1, h2, h3.set (hg.cellv hi) ?_ u⟩
    rintro rfl
    obtain ⟨cs', h'⟩ := h3.bk
    unfold Bk at h' hg
    rw [h'] at hg
    injection hg with e
    injection e with _ e2
    exact ht e2.symm

theorem cells8_fill (f g : Nat → Int) : ((((((((cells8 f).setIfInBounds 0 (.int .i64 (g 0))).setIfInBounds 1 (.int .i64 (g 1))).setIfInBounds 2 (.int .i64 (g 2))).setIfInBounds 3 (.int .i64 (g 3))).setIfInBounds 4 (.int .i64 (g 4))).setIfInBounds 5 (.int .i64 (g 5))).setIfInBounds 6 (.int .i64 (g 6))).setIfInBounds 7 (.int .i64 (g 7)) = cells8 g := by simp [cells8]
/-- eight counts against themselves -/
theorem eq_cells8 (f : Nat → Int) (w : World) : (Op.equalIn 10000 28 (.agg (cells8 f)) (.agg (cells8 f))).run Try.prog w = .ok true w := by
  unfold cells8
  generalize f 0 = x0
  generalize f 1 = x1
  generalize f 2 = x2
  generalize f 3 = x3
  generalize f 4 = x4
  generalize f 5 = x5
  generalize f 6 = x6
  generalize f 7 = x7
  have u3 := Try.underlying3
  have a3 := Try.isAgg3
  have z3 := Try.sizeOf3
  rw [show (10000 : Nat) = 9999 + 1 from rfl, Op.equalIn]
  simp only [Sem.run_bind, run_underlying Try.underlying28, Result.andThen_ok]
  simp only [Std.Legacy.Range.forIn_eq_forIn_range', Std.Legacy.Range.size, Nat.sub_zero, Nat.add_sub_cancel, Nat.div_one, List.range'_succ, List.range'_zero, List.forIn_cons, List.forIn_nil]
  go_simp
/-- a world in which a block of eight cells, new since w, is filled -/
def Set8 (B : Nat) (v : Value) (k : Int) (w w' : World) : Prop := PgV B w' v k ∧ PgStep w w' ∧ Below B w w' ∧ ∃ cs, Bk w' w.heap.size 28 cs ∧ cs.size = 8
theorem Set8.set {B : Nat} {v : Value} {k : Int} {w w' : World} (h : Set8 B v k w w') (hB : B ≤ w.heap.size) (i : Nat) (hi : i < 8) (u : Value) : Set8 B v k w (w'.setCell ⟨w.heap.size, i, none⟩ u) := by
  obtain ⟨h1, h2, h3, cs, h4, h5⟩ := h
  exact ⟨h1.set h4 (by decide) (Array.getElem?_eq_getElem (by omega)) u, h2.set (Nat.le_refl _) u, h3.setCell hB u, _, h4.set i u, by simpa using h5⟩

set_option maxHeartbeats 4000000 in
set_option maxRecDepth 100000 in
theorem count_any (B : Nat) (v x : Value) (k : Int) (l : List Nat) (w : World) (hB : B ≤ w.heap.size) (hp : PgV B w v k) (hx : BRow w x l) (ho : ∀ a n c, x = .slice (some a) n c → ∀ cs, ¬ Bk w a.block 122 cs) :
    Calls Try.prog 13 #[v, x] w fun e w' => e = .returned (.agg (cells8 (countOf k l))) ∧ PgV B w' v k ∧ PgStep w w' ∧ Below B w w' := by
  obtain ⟨a, cap, rfl⟩ : ∃ a cap, x = .slice a l.length cap := by
    rcases hx with ⟨rfl, rfl⟩ | ⟨a, cap, h, _⟩
    · exact ⟨_, _, rfl⟩
    · exact ⟨_, _, h⟩
  have hlen : l.length ≤ 9223372036854775807 := hx.len
  have HX := Lib.hid hx
  have HP := Lib.hid hp
  have HO := Lib.hid ho
  clear hx hp ho
  go_enter Try.func13, Try.ntmps13
  go_wp2_with fail
  go_loopw [10] (fun i wr => ∃ j : Nat, j ≤ l.length ∧ i = .int .i64 j ∧ PgV B wr v k ∧ PgStep w wr ∧ Below B w wr ∧ Bk wr w.heap.size 28 (cells8 (countOf 0 [])) ∧ Bk wr (w.heap.size + 1) 28 (cells8 (countOf k (l.take j)))) (fun i _ => l.length - (intOf i).toNat)
  case atStart =>
    have hA := ((Below.refl B w).alloc hB (.cells (cells8 (countOf 0 [])) 28)).alloc (by simp; omega) (.cells (cells8 (countOf 0 [])) 28)
    have hA' := ((Below.refl w.heap.size w).alloc (Nat.le_refl _) (.cells (cells8 (countOf 0 [])) 28)).alloc (by simp) (.cells (cells8 (countOf 0 [])) 28)
    exact ⟨0, Nat.zero_le _, rfl, HP.out.below hA', PgStep.below hA', hA, (Bk.new _ _ _).alloc _, (by
      have h := Bk.new (w.alloc (.cells (cells8 (countOf 0 [])) 28)) 28 (cells8 (countOf 0 []))
      simp only [World.size_alloc] at h
      exact h)⟩
  case round =>
    obtain ⟨j, hj1, rfl, hp1, hs1, hw1, hz1, hc1⟩ := hrel
    have HP1 := Lib.hid hp1
    have HS1 := Lib.hid hs1
    have HW1 := Lib.hid hw1
    have HZ1 := Lib.hid hz1
    have HC1 := Lib.hid hc1
    have hx1 := BRow_step HX.out HO.out hs1
    clear hp1 hs1 hw1 hz1 hc1
    by_cases hlt : j < l.length
    · obtain ⟨c, hcl⟩ : ∃ c, l[j]? = some c := ⟨l[j], List.getElem?_eq_getElem hlt⟩
      have hc256 : c < 256 := hx1.bound c (List.mem_of_getElem? hcl)
      obtain ⟨ad, rfl, hcell⟩ : ∃ ad, a = some ad ∧ wr.cell? (ad.add j) = some (.int .u8 c) := by
        rcases hx1 with ⟨h, rfl⟩ | ⟨ad, cap', h, _, _, h4, _⟩
        · simp at hlt
        · injection h with h
          exact ⟨ad, h, h4 j c hcl⟩
      have HCL := Lib.hid hcl
      clear hx1 hcl
      go_wp2_with fail
      refine (cof_any B _ k c hc256 _ (Nat.le_trans hB HW1.out.size) HP1.out).mono ?_
      rintro e w2 ⟨rfl, h1, h2, h3⟩
      obtain ⟨m, hm1, hm2, hm3⟩ := class_nat k c
      have HP2 := Lib.hid h1
      have HS2 := Lib.hid h2
      have HW2 := Lib.hid h3
      rw [hm1]
      have HM1 := Lib.hid hm1
      have hcell2 : w2.cell? ⟨w.heap.size + 1, m, none⟩ = some (.int .i64 (countOf k (l.take j) m)) := (h2.bk HC1.out (by decide)).cellv (cells8_at _ m hm2)
      have hfr2 : w2.frozen? ⟨w.heap.size + 1, m, none⟩ = false := (h2.bk HC1.out (by decide)).frozen m
      clear h1 h2 h3 hcell hm1
      go_wp2_with fail
      have hB2 := HS2.out.bk HC1.out (by decide)
      have hset := hB2.set m (.int .i64 (wrap64 (countOf k (l.take j) m + 1)))
      rw [cells8_bump _ m hm2] at hset
      go_roundw
      case rel =>
        refine ⟨j + 1, by omega, by go_num, HP2.out.set hB2 (by decide) (cells8_at _ m hm2) _, (HS1.out.trans HS2.out).set (by simp) _, (HW1.out.trans HW2.out).setCell (by simp; omega) _, (HS2.out.bk HZ1.out (by decide)).far (by simp) _, ?_⟩
        rw [take_snoc' l j hlt, countOf_snoc, (List.getElem?_eq_some_iff.1 HCL.out).2, hm3]
        exact hset
      case measure => simp [intOf]; omega
    · have hej : l.take j = l := List.take_of_length_le (by omega)
      rw [hej] at HC1
      clear hx1
      have d0 := HC1.out.cellv (cells8_at _ 0 (by decide))
      have z0 := HZ1.out.cellv (cells8_at _ 0 (by decide))
      have f0 := HZ1.out.frozen 0
      have d1 := HC1.out.cellv (cells8_at _ 1 (by decide))
      have z1 := HZ1.out.cellv (cells8_at _ 1 (by decide))
      have f1 := HZ1.out.frozen 1
      have d2 := HC1.out.cellv (cells8_at _ 2 (by decide))
      have z2 := HZ1.out.cellv (cells8_at _ 2 (by decide))
      have f2 := HZ1.out.frozen 2
      have d3 := HC1.out.cellv (cells8_at _ 3 (by decide))
      have z3 := HZ1.out.cellv (cells8_at _ 3 (by decide))
      have f3 := HZ1.out.frozen 3
      have d4 := HC1.out.cellv (cells8_at _ 4 (by decide))
      have z4 := HZ1.out.cellv (cells8_at _ 4 (by decide))
      have f4 := HZ1.out.frozen 4
      have d5 := HC1.out.cellv (cells8_at _ 5 (by decide))
      have z5 := HZ1.out.cellv (cells8_at _ 5 (by decide))
      have f5 := HZ1.out.frozen 5
      have d6 := HC1.out.cellv (cells8_at _ 6 (by decide))
      have z6 := HZ1.out.cellv (cells8_at _ 6 (by decide))
      have f6 := HZ1.out.frozen 6
      have d7 := HC1.out.cellv (cells8_at _ 7 (by decide))
      have z7 := HZ1.out.cellv (cells8_at _ 7 (by decide))
      have f7 := HZ1.out.frozen 7
      go_wp2_with fail
      clear d0 d1 d2 d3 d4 d5 d6 d7 z0 z1 z2 z3 z4 z5 z6 z7 f0 f1 f2 f3 f4 f5 f6 f7
      have HB := ((((((((HZ1.out.set 0 (.int .i64 (countOf k l 0))).set 1 (.int .i64 (countOf k l 1))).set 2 (.int .i64 (countOf k l 2))).set 3 (.int .i64 (countOf k l 3))).set 4 (.int .i64 (countOf k l 4))).set 5 (.int .i64 (countOf k l 5))).set 6 (.int .i64 (countOf k l 6))).set 7 (.int .i64 (countOf k l 7)))
      rw [cells8_fill] at HB
      have hS : Set8 B v k w wr := ⟨HP1.out, HS1.out, HW1.out, _, HZ1.out, rfl⟩
      have hF := (((((((hS.set hB 0 (by decide) (.int .i64 (countOf k l 0))).set hB 1 (by decide) (.int .i64 (countOf k l 1))).set hB 2 (by decide) (.int .i64 (countOf k l 2))).set hB 3 (by decide) (.int .i64 (countOf k l 3))).set hB 4 (by decide) (.int .i64 (countOf k l 4))).set hB 5 (by decide) (.int .i64 (countOf k l 5))).set hB 6 (by decide) (.int .i64 (countOf k l 6))).set hB 7 (by decide) (.int .i64 (countOf k l 7))
      refine bodyPost_ret (results_cell_row (ty := 28) (d := .array 8 3) rfl _ _ _ _ _ _ rfl HB Try.underlying28 rfl (by kernel_rfl)) rfl ?_
      exact ⟨rfl, hF.1, hF.2.1, hF.2.2.1⟩
end Go.Proofs.Ytcibhchbgendaab.Cl
