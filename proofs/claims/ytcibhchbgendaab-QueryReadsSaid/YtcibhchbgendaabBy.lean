/- Slices of bytes; the walks of vitrineref01.Copy and Cut. -/
import Derived.Test.YtcibhchbgendaabVw
import Derived.Test.YtcibhchbgendaabProg
import Derived.WalkKit
import Derived.Below
import Derived.KernelRfl
import Derived.Laws.AppendOwn
import Derived.Laws.AppendOwnNone
import Derived.Lib.Hide
namespace Go.Proofs.Ytcibhchbgendaab.By
open Go Go.RowKit

/-- bytes as cells -/
def bv (n : Nat) : Value := .int .u8 (n : Int)
/-- a slice of bytes that reads as l -/
def BRow (w : World) (v : Value) (l : List Nat) : Prop :=
  (v = .slice none 0 0 ∧ l = []) ∨
  ∃ a cap, v = .slice (some a) l.length cap ∧ l.length ≤ cap ∧ cap ≤ maxLen ∧ (∀ i n, l[i]? = some n → w.cell? (a.add i) = some (bv n)) ∧ ∀ n ∈ l, n < 256
/-- the slice is in one of the blocks from B on, and the call's own; it begins its block -/
def BOwn (B : Nat) (w : World) (v : Value) (l : List Nat) : Prop := (∀ n ∈ l, n < 256) ∧ w.ownsRow B 5 1 v l.length (l.map bv)

theorem cell_lt {w : World} {p : Addr} {v : Value} (h : w.cell? p = some v) : p.block < w.heap.size := by
  rcases Nat.lt_or_ge p.block w.heap.size with hlt | hge
  · exact hlt
  · unfold World.cell? at h
    rw [Array.getElem?_eq_none hge] at h
    simp at h
theorem add_block (a : Addr) (i : Nat) : (a.add i).block = a.block := by unfold Addr.add; split <;> rfl
theorem cell_of_block {w w' : World} {p : Addr} (h : w'.heap[p.block]? = w.heap[p.block]?) : w'.cell? p = w.cell? p := by
  unfold World.cell?
  rw [h]
theorem u8_info : (Try.prog.info? 5).map (fun i => (i.zero, i.size, i.bytes)) = some (some (.int .u8 0), 1, 1) := by kernel_rfl

theorem BRow.bound {w : World} {v : Value} {l : List Nat} (h : BRow w v l) : ∀ n ∈ l, n < 256 := by
  rcases h with ⟨_, rfl⟩ | ⟨a, cap, _, _, _, _, h⟩
  · simp
  · exact h
theorem BRow.keep {w w' : World} {v : Value} {l : List Nat} (h : BRow w v l) (hk : ∀ a n c, v = .slice (some a) n c → w'.heap[a.block]? = w.heap[a.block]?) : BRow w' v l := by
  rcases h with h | ⟨a, cap, h1, h2, h3, h4, h5⟩
  · exact .inl h
  · refine .inr ⟨a, cap, h1, h2, h3, fun i n hi => ?_, h5⟩
    exact (cell_of_block (by rw [add_block]; exact hk a _ _ h1)).trans (h4 i n hi)
theorem BRow.lt {w : World} {v : Value} {l : List Nat} (h : BRow w v l) : l = [] ∨ ∀ a n c, v = .slice (some a) n c → a.block < w.heap.size := by
  rcases h with ⟨_, h⟩ | ⟨a, cap, h1, h2, h3, h4, h5⟩
  · exact .inl h
  · cases l with
    | nil => exact .inl rfl
    | cons n l =>
      refine .inr fun b m c e => ?_
      rw [h1] at e
      injection e with e1
      injection e1 with e1
      subst e1
      have := cell_lt (h4 0 n rfl)
      rwa [add_block] at this
theorem BRow.below {B : Nat} {w w' : World} {v : Value} {l : List Nat} (h : BRow w v l) (hb : Below B w w') (hB : w.heap.size ≤ B) : BRow w' v l := by
  rcases h.lt with rfl | hlt
  · rcases h with h | ⟨a, cap, h1, h2, h3, h4, h5⟩
    · exact .inl h
    · exact .inr ⟨a, cap, h1, h2, h3, fun i n hi => by simp at hi, h5⟩
  · exact h.keep fun a n c e => hb.block _ (Nat.lt_of_lt_of_le (hlt a n c e) hB)
theorem BRow.len {w : World} {v : Value} {l : List Nat} (h : BRow w v l) : l.length ≤ maxLen := by
  rcases h with ⟨_, rfl⟩ | ⟨a, cap, h1, h2, h3, h4, h5⟩
  · simp
  · omega

theorem BOwn.row {B : Nat} {w : World} {v : Value} {l : List Nat} (h : BOwn B w v l) : BRow w v l := by
  obtain ⟨hb, hl, h | ⟨g, cap, cur, h1, h2, h3, h4, h5, h6, h7⟩⟩ := h
  · exact .inl ⟨by rw [h.1], List.length_eq_zero_iff.1 h.2⟩
  · refine .inr ⟨_, cap, h1, h4, h5, fun i n hi => ?_, hb⟩
    have hlt : i < l.length := (List.getElem?_eq_some_iff.1 hi).1
    rw [addr_add0, cell_of_row w g (0 + i) cur _ (0, 0) h3]
    have e : (cur.toList.take (l.length * 1))[i]? = (l.map bv)[i]? := by rw [h7]
    rw [List.getElem?_map, hi] at e
    simp at e
    simpa [hlt] using e
theorem BOwn.lt {B : Nat} {w : World} {v : Value} {l : List Nat} (h : BOwn B w v l) : v = .slice none 0 0 ∨ ∃ g n c, v = .slice (some ⟨g, 0, none⟩) n c ∧ B ≤ g ∧ g < w.heap.size := by
  obtain ⟨hb, hl, h | ⟨g, cap, cur, h1, h2, h3, h4, h5, h6, h7⟩⟩ := h
  · exact .inl h.1
  · refine .inr ⟨g, _, cap, h1, h2, ?_⟩
    rcases Nat.lt_or_ge g w.heap.size with hlt | hge
    · exact hlt
    · rw [Array.getElem?_eq_none hge] at h3; cases h3
theorem BOwn.keep {B : Nat} {w w' : World} {v : Value} {l : List Nat} (h : BOwn B w v l) (hk : ∀ g n c, v = .slice (some ⟨g, 0, none⟩) n c → w'.heap[g]? = w.heap[g]?) : BOwn B w' v l := by
  obtain ⟨hb, hl, h | ⟨g, cap, cur, h1, h2, h3, h4⟩⟩ := h
  · exact ⟨hb, hl, .inl h⟩
  · exact ⟨hb, hl, .inr ⟨g, cap, cur, h1, h2, (hk g _ _ h1).trans h3, h4⟩⟩
theorem BOwn.below {B C : Nat} {w w' : World} {v : Value} {l : List Nat} (h : BOwn B w v l) (hb : Below C w w') (hB : w.heap.size ≤ C) : BOwn B w' v l :=
  h.keep fun g n c e => hb.block _ (by
    rcases h.lt with h | ⟨g', n', c', h, _, hlt⟩
    · rw [h] at e; cases e
    · rw [h] at e; injection e with e; injection e with e; injection e with e; subst e; omega)
theorem BOwn.lower {B C : Nat} {w : World} {v : Value} {l : List Nat} (h : BOwn B w v l) (hC : C ≤ B) : BOwn C w v l := by
  obtain ⟨hb, hl, h | ⟨g, cap, cur, h1, h2, h3⟩⟩ := h
  · exact ⟨hb, hl, .inl h⟩
  · exact ⟨hb, hl, .inr ⟨g, cap, cur, h1, Nat.le_trans hC h2, h3⟩⟩

theorem BOwn.notpage {B : Nat} {w : World} {v : Value} {l : List Nat} (h : BOwn B w v l) {t : TypeId} (ht : t ≠ 5) : ∀ a n c, v = .slice (some a) n c → ∀ cs, ¬ Bk w a.block t cs := by
  intro a n c e cs hb
  obtain ⟨_, hl, h | ⟨g, cap, cur, h1, h2, h3, h4⟩⟩ := h
  · rw [h.1] at e; cases e
  · rw [h1] at e
    injection e with e
    injection e with e
    subst e
    unfold Bk at hb
    have hb' := h3.symm.trans hb
    injection hb' with e
    injection e with _ e2
    exact ht e2.symm

/-- a slice of numbers that came in (as the row opens it) -/
def IsRow (k : IntKind) (w : World) (a : Option Addr) (len cap : Nat) (zs : List Int) : Prop :=
  (a = none ∧ len = 0 ∧ cap = 0 ∧ zs = []) ∨
  ∃ x, a = some x ∧ len ≤ cap ∧ cap ≤ maxLen ∧ zs.length = cap ∧ (∀ i, i < zs.length → w.cell? (x.add i) = some (.int k (zs.getD i 0))) ∧ ∀ n ∈ zs, (Lit.int k n).wf = true
theorem IsRow.bytes {w : World} {a : Option Addr} {len cap : Nat} {zs : List Int} (h : IsRow .u8 w a len cap zs) : ∃ l : List Nat, l.length = len ∧ BRow w (.slice a len cap) l := by
  rcases h with ⟨rfl, rfl, rfl, rfl⟩ | ⟨x, rfl, h1, h2, h3, h4, h5⟩
  · exact ⟨[], rfl, .inl ⟨rfl, rfl⟩⟩
  · have hw : ∀ i, i < cap → 0 ≤ zs.getD i 0 ∧ zs.getD i 0 < 256 := by
      intro i hi
      have hm : zs.getD i 0 ∈ zs := by
        rw [List.getD_eq_getElem?_getD, List.getElem?_eq_getElem (by omega)]
        exact List.getElem_mem _
      have := h5 _ hm
      simp only [Lit.wf, show IntKind.u8.min = 0 from rfl, show IntKind.u8.max = 255 from rfl, Bool.and_eq_true, decide_eq_true_eq] at this
      omega
    have hl : ((zs.take len).map Int.toNat).length = len := by simp; omega
    refine ⟨(zs.take len).map Int.toNat, hl, .inr ⟨x, cap, by rw [hl], by omega, h2, ?_, ?_⟩⟩
    · intro i n hi
      have hlt : i < len := by have := (List.getElem?_eq_some_iff.1 hi).1; omega
      rw [List.getElem?_map, List.getElem?_take, if_pos hlt, List.getElem?_eq_getElem (by omega)] at hi
      simp at hi
      have h6 := hw i (by omega)
      rw [h4 i (by omega)]
      rw [List.getD_eq_getElem?_getD, List.getElem?_eq_getElem (by omega)] at h6 ⊢
      simp at h6 ⊢
      unfold bv
      congr 2
      omega
    · intro n hn
      obtain ⟨z, hz, rfl⟩ := List.mem_map.1 hn
      have := h5 z (List.mem_of_mem_take hz)
      simp only [Lit.wf, show IntKind.u8.min = 0 from rfl, show IntKind.u8.max = 255 from rfl, Bool.and_eq_true, decide_eq_true_eq] at this
      omega

theorem new_own (w : World) : BOwn w.heap.size (w.alloc (.cells #[] 5)) (.slice (some ⟨w.heap.size, 0, none⟩) 0 0) [] :=
  ⟨by simp, by simp, .inr ⟨w.heap.size, 0, #[], rfl, Nat.le_refl _, heap_alloc_new w _, Nat.le_refl _, by simp [maxLen], by simp, by simp⟩⟩

theorem bv_cell (u : Value) (l : List Nat) (h : u ∈ l.map bv) : u.oneCell' = true := by
  obtain ⟨n, _, rfl⟩ := List.mem_map.1 h
  rfl
theorem bv_cells {w : World} {a : Addr} {l : List Nat} (h : ∀ i n, l[i]? = some n → w.cell? (a.add i) = some (bv n)) : ∀ j u, (l.map bv)[j]? = some u → w.cell? (a.add j) = some u := by
  intro j u hu
  rw [List.getElem?_map] at hu
  cases e : l[j]? with
  | none => rw [e] at hu; cases hu
  | some n =>
    rw [e] at hu
    cases hu
    exact h j n e

set_option maxHeartbeats 4000000 in
set_option maxRecDepth 100000 in
theorem copy_any (v : Value) (l : List Nat) (w : World) (hv : BRow w v l) (h47 : l.length ≤ 140737488351232) :
    Calls Try.prog 24 #[v] w fun e w' => ∃ v', e = .returned v' ∧ BOwn w.heap.size w' v' l ∧ v' ≠ .slice none 0 0 ∧ Below w.heap.size w w' := by
  have HV := Lib.hid (show BRow (w.alloc (.cells #[] 5)) v l from hv.below ((Below.refl w.heap.size w).alloc (Nat.le_refl _) _) (Nat.le_refl _))
  have hb := hv.bound
  obtain ⟨i0, hi, hz0, hz1, hz2⟩ := info_parts u8_info
  rcases hv with ⟨rfl, rfl⟩ | ⟨a, cap, rfl, h2, h3, h4, h5⟩
  · go_enter Try.func24, Try.ntmps24
    go_wp2_with fail
    go_ret
    exact ⟨_, rfl, new_own w, by simp, (Below.refl _ _).alloc (Nat.le_refl _) _⟩
  · have H4 := Lib.hid (show ∀ i n, l[i]? = some n → (w.alloc (.cells #[] 5)).cell? (a.add i) = some (bv n) from by
      rcases HV.out with ⟨h, _⟩ | ⟨a', cap', e, _, _, h4', _⟩
      · cases h
      · injection e with e1 e2 e3
        injection e1 with e1
        subst e1
        exact h4')
    have HN := new_own w
    clear h4 HV h5
    go_enter Try.func24, Try.ntmps24
    go_wp2_with (first | (at_builtin; refine wpList_append_own _ rfl _ _ 22 rfl w.heap.size 5 i0 (.int .u8 0) 1 1 Try.underlying22 hi hz0 hz1 hz2 rfl (by decide) (.slice (some ⟨w.heap.size, 0, none⟩) 0 0) 0 [] rfl HN.2 a l.length cap (l.map bv) rfl (by simp) (bv_cells H4.out) (fun u hu => bv_cell u l hu) (by omega) (by omega) (by simp) ?_; intro v' w2 hown hgrow hnil))
    have hle := hgrow.size
    go_ret
    refine ⟨_, rfl, ⟨hb, by simpa using hown⟩, fun h => by simpa using (hnil.1 h).1, ((Below.refl w.heap.size w).alloc (Nat.le_refl _) _).grown hgrow (Nat.le_of_lt (by simp)) (fun j hj => ?_)⟩
    simp [Value.ownBlock] at hj
    omega

set_option maxHeartbeats 4000000 in
set_option maxRecDepth 100000 in
theorem cut_any (v : Value) (l : List Nat) (m : Nat) (hm : m ≤ 140737488351232) (w : World) (hv : BRow w v l) :
    Calls Try.prog 11 #[v, .int .i64 m] w fun e w' => ∃ v', e = .returned v' ∧ BOwn w.heap.size w' v' (l.take m) ∧ v' ≠ .slice none 0 0 ∧ Below w.heap.size w w' := by
  have HV := Lib.hid hv
  by_cases hgt : m < l.length
  · have htk : (l.take m).length = m := by rw [List.length_take]; omega
    rcases hv with ⟨rfl, rfl⟩ | ⟨a, cap, rfl, h2, h3, h4, h5⟩
    · simp at hgt
    · have H1 := Lib.hid (show BRow w (.slice (some a) m cap) (l.take m) from .inr ⟨a, cap, by rw [htk], by omega, h3, fun i n hi => h4 i n (by
        rw [List.getElem?_take] at hi
        split at hi
        · exact hi
        · cases hi), fun n hn => h5 n (List.mem_of_mem_take hn)⟩)
      clear h4 h5
      go_enter Try.func11, Try.ntmps11
      go_wp2_with fail
      refine (copy_any _ _ _ H1.out (by omega)).mono ?_
      rintro e w' ⟨v', rfl, h⟩
      have H := Lib.hid h
      clear h
      go_wp2_with fail
      go_ret
      exact ⟨_, rfl, H.out⟩
  · have htk : l.take m = l := List.take_of_length_le (by omega)
    obtain ⟨a, cap, rfl⟩ : ∃ a cap, v = .slice a l.length cap := by
      rcases hv with ⟨rfl, rfl⟩ | ⟨a, cap, h, _⟩
      · exact ⟨_, _, rfl⟩
      · exact ⟨_, _, h⟩
    clear hv
    rw [htk]
    go_enter Try.func11, Try.ntmps11
    go_wp2_with fail
    refine (copy_any _ _ _ HV.out (by omega)).mono ?_
    rintro e w' ⟨v', rfl, h⟩
    have H := Lib.hid h
    clear h
    go_wp2_with fail
    go_ret
    exact ⟨_, rfl, H.out⟩
end Go.Proofs.Ytcibhchbgendaab.By
