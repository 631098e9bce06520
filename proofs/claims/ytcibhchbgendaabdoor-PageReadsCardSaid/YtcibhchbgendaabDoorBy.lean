/- Slices of bytes; the walks of vitrineref01.Copy and Cut. -/
import Derived.Test.YtcibhchbgendaabDoorVw
import Derived.Test.YtcibhchbgendaabDoorProg
import Derived.WalkKit
import Derived.Below
import Derived.KernelRfl
import Derived.Laws.AppendOwn
import Derived.Laws.AppendOwnNone
import Derived.Lib.Hide
namespace Go.Proofs.YtcibhchbgendaabDoor.By
open Go Go.RowKit

/-- bytes as cells -/
def bv (n : Nat) : Value := .int .u8 (n : Int)
/-- a slice of bytes that reads as l -/
def BRow (w : World) (v : Value) (l : List Nat) : Prop :=
  (v = .slice none 0 0 ∧ l = []) ∨
  ∃ a cap, v = .slice (some a) l.length cap ∧ l.length ≤ cap ∧ cap ≤ maxLen ∧ (∀ i n, l[i]? = some n → w.cell? (a.add i) = some (bv n)) ∧ ∀ n ∈ l, n < 256
/-- the slice is in one of the blocks from B on, and the call's own; it begins its block -/
def BOwn (B : Nat) (w : World) (v : Value) (l : List Nat) : Prop := (∀ n ∈ l, n < 256) ∧ w.ownsRow B 5 1 v l.length (l.map bv)

theorem cell_lt {w : World} {p : Addr} {v : Value} (h : w.cell? p = some v) : p.block < w.heap.size := by
  rcases Nat.lt_or_ge p.block w.heap.size with hlt | hge
  · exact hlt
  · unfold World.cell? at h
    rw [Array.getElem?_eq_none hge] at h
    simp at h
theorem add_block (a : Addr) (i : Nat) : (a.add i).block = a.block := by unfold Addr.add; split <;> rfl
theorem cell_of_block {w w' : World} {p : Addr} (h : w'.heap[p.block]? = w.heap[p.block]?) : w'.cell? p = w.cell? p := by
  unfold World.cell?
  rw [h]
theorem u8_info : (Tryd.prog.info? 5).map (fun i => (i.zero, i.size, i.bytes)) = some (some (.int .u8 0), 1, 1) := by kernel_rfl

theorem BRow.bound {w : World} {v : Value} {l : List Nat} (h : BRow w v l) : ∀ n ∈ l, n < 256 := by
  rcases h with ⟨_, rfl⟩ | ⟨a, cap, _, _, _, _, h⟩
  · simp
  · exact h
theorem BRow.keep {w w' : World} {v : Value} {l : List Nat} (h : BRow w v l) (hk : ∀ a n c, v = .slice (some a) n c → w'.heap[a.block]? = w.heap[a.block]?) : BRow w' v l := by
  rcases h with h | ⟨a, cap, h1, h2, h3, h4, h5⟩
  · exact .inl h
  · refine .inr ⟨a, cap, h1, h2, h3, fun i n hi => ?_, h5⟩
    exact (cell_of_block (by rw [add_block]; exact hk a _ _ h1)).trans (h4 i n hi)
theorem BRow.lt {w : World} {v : Value} {l : List Nat} (h : BRow w v l) : l = [] ∨ ∀ a n c, v = .slice (some a) n c → a.block < w.heap.size := by
  rcases h with ⟨_, h⟩ | ⟨a, cap, h1, h2, h3, h4, h5⟩
  · exact .inl h
  · cases l with
    | nil => exact .inl rfl
    | cons n l =>
      refine .inr fun b m c e => ?_
      rw [h1] at e
      injection e with e1
      injection e1 with e1
      subst e1
      have := cell_lt (h4 0 n rfl)
      rwa [add_block] at this
theorem BRow.below {B : Nat} {w w' : World} {v : Value} {l : List Nat} (h : BRow w v l) (hb : Below B w w') (hB : w.heap.size ≤ B) : BRow w' v l := by
  rcases h.lt with rfl | hlt
  · rcases h with h | ⟨a, cap, h1, h2, h3, h4, h5⟩
    · exact .inl h
    · exact .inr ⟨a, cap, h1, h2, h3, fun i n hi => by simp at hi, h5⟩
  · exact h.keep fun a n c e => hb.block _ (Nat.lt_of_lt_of_le (hlt a n c e) hB)
theorem BRow.len {w : World} {v : Value} {l : List Nat} (h : BRow w v l) : l.length ≤ maxLen := by
  rcases h with ⟨_, rfl⟩ | ⟨a, cap, h1, h2, h3, h4, h5⟩
  · simp
  · omega

theorem BOwn.row {B : Nat} {w : World} {v : Value} {l : List Nat} (h : BOwn B w v l) : BRow w v l := by
  obtain ⟨hb, hl, h | ⟨g, cap, cur, h1, h2, h3, h4, h5, h6, h7⟩⟩ := h
  · exact .inl ⟨by rw [h.1], List.length_eq_zero_iff.1 h.2⟩
  · refine .inr ⟨_, cap, h1, h4, h5, fun i n hi => ?_, hb⟩
    have hlt : i < l.length := (List.getElem?_eq_some_iff.1 hi).1
    rw [addr_add0, cell_of_row w g (0 + i) cur _ (0, 0) h3]
    have e : (cur.toList.take (l.length * 1))[i]? = (l.map bv)[i]? := by rw [h7]
    rw [List.getElem?_map, hi] at e
    simp at e
    simpa [hlt] using e
theorem BOwn.lt {B : Nat} {w : World} {v : Value} {l : List Nat} (h : BOwn B w v l) : v = .slice none 0 0 ∨ ∃ g n c, v = .slice (some ⟨g, 0, none⟩) n c ∧ B ≤ g ∧ g < w.heap.size := by
  obtain ⟨hb, hl, h | ⟨g, cap, cur, h1, h2, h3, h4, h5, h6, h7⟩⟩ := h
  · exact .inl h.1
  · refine .inr ⟨g, _, cap, h1, h2, ?_⟩
    rcases Nat.lt_or_ge g w.heap.size with hlt | hge
    · exact hlt
    · rw [Array.getElem?_eq_none hge] at h3; cases h3
theorem BOwn.keep {B : Nat} {w w' : World} {v : Value} {l : List Nat} (h : BOwn B w v l) (hk : ∀ g n c, v = .slice (some ⟨g, 0, none⟩) n c → w'.heap[g]? = w.heap[g]?) : BOwn B w' v l := by
  obtain ⟨hb, hl, h | ⟨g, cap, cur, h1, h2, h3, h4⟩⟩ := h
  · exact ⟨hb, hl, .inl h⟩
  · exact ⟨hb, hl, .inr ⟨g, cap, cur, h1, h2, (hk g _ _ h1).trans h3, h4⟩⟩
theorem BOwn.below {B C : Nat} {w w' : World} {v : Value} {l : List Nat} (h : BOwn B w v l) (hb : Below C w w') (hB : w.heap.size ≤ C) : BOwn B w' v l :=
  h.keep fun g n c e => hb.block _ (by
    rcases h.lt with h | ⟨g', n', c', h, _, hlt⟩
    · rw [h] at e; cases e
    · rw [h] at e; injection e with e; injection e with e; injection e with e; subst e; omega)
theorem BOwn.lower {B C : Nat} {w : World} {v : Value} {l : List Nat} (h : BOwn B w v l) (hC : C ≤ B) : BOwn C w v l := by
  obtain ⟨hb, hl, h | ⟨g, cap, cur, h1, h2, h3⟩⟩ := h
  · exact ⟨hb, hl, .inl h⟩
  · exact ⟨hb, hl, .inr ⟨g, cap, cur, h1, Nat.le_trans hC h2, h3⟩⟩

theorem BOwn.notpage {B : Nat} {w : World} {v : Value} {l : List Nat} (h : BOwn B w v l) {t : TypeId} (ht : t ≠ 5) : ∀ a n c, v = .slice (some a) n c → ∀ cs, ¬ Bk w a.block t cs := by
  intro a n c e cs hb
  obtain ⟨_, hl, h | ⟨g, cap, cur, h1, h2, h3, h4⟩⟩ := h
  · rw [h.1] at e; cases e
  · rw [h1] at e
    injection e with e
    injection e with e
    subst e
    unfold Bk at hb
    have hb' := h3.symm.trans hb
    injection hb' with e
    injection e with _ e2
    exact ht e2.symm

/-- a slice of numbers that came in (as the row opens it) -/
def IsRow (k : IntKind) (w : World) (a : Option Addr) (len cap : Nat) (zs : List Int) : Prop :=
  (a = none ∧ len = 0 ∧ cap = 0 ∧ zs = []) ∨
  ∃ x, a = some x ∧ len ≤ cap ∧ cap ≤ maxLen ∧ zs.length = cap ∧ (∀ i, i < zs.length → w.cell? (x.add i) = some (.int k (zs.getD i 0))) ∧ ∀ n ∈ zs, (Lit.int k n).wf = true
theorem IsRow.bytes {w : World} {a : Option Addr} {len cap : Nat} {zs : List Int} (h : IsRow .u8 w a len cap zs) : ∃ l : List Nat, l.length = len ∧ BRow w (.slice a len cap) l := by
  rcases h with ⟨rfl, rfl, rfl, rfl⟩ | ⟨x, rfl, h1, h2, h3, h4, h5⟩
  · exact ⟨[], rfl, .inl ⟨rfl, rfl⟩⟩
  · have hw : ∀ i, i < cap → 0 ≤ zs.getD i 0 ∧ zs.getD i 0 < 256 := by
      intro i hi
      have hm : zs.getD i 0 ∈ zs := by
        rw [List.getD_eq_getElem?_getD, List.getElem?_eq_getElem (by omega)]
        exact List.getElem_mem _
      have := h5 _ hm
      simp only [Lit.wf, show IntKind.u8.min = 0 from rfl, show IntKind.u8.max = 255 from rfl, Bool.and_eq_true, decide_eq_true_eq] at this
      omega
    have hl : ((zs.take len).map Int.toNat).length = len := by simp; omega
    refine ⟨(zs.take len).map Int.toNat, hl, .inr ⟨x, cap, by rw [hl], by omega, h2, ?_, ?_⟩⟩
    · intro i n hi
      have hlt : i < len := by have := (List.getElem?_eq_some_iff.1 hi).1; omega
      rw [List.getElem?_map, List.getElem?_take, if_pos hlt, List.getElem?_eq_getElem (by omega)] at hi
      simp at hi
      have h6 := hw i (by omega)
      rw [h4 i (by omega)]
      rw [List.getD_eq_getElem?_getD, List.getElem?_eq_getElem (by omega)] at h6 ⊢
      simp at h6 ⊢
      unfold bv
      congr 2
      omega
    · intro n hn
      obtain ⟨z, hz, rfl⟩ := List.mem_map.1 hn
      have := h5 z (List.mem_of_mem_take hz)
      simp only [Lit.wf, show IntKind.u8.min = 0 from rfl, show IntKind.u8.max = 255 from rfl, Bool.and_eq_true, decide_eq_true_eq] at this
      omega

theorem new_own (w : World) : BOwn w.heap.size (w.alloc (.cells #[] 5)) (.slice (some ⟨w.heap.size, 0, none⟩) 0 0) [] :=
  ⟨by simp, by simp, .inr ⟨w.heap.size, 0, #[], rfl, Nat.le_refl _, heap_alloc_new w _, Nat.le_refl _, by simp [maxLen], by simp, by simp⟩⟩

theorem bv_cell (u : Value) (l : List Nat) (h : u ∈ l.map bv) : u.oneCell' = true := by
  obtain ⟨n, _, rfl⟩ := List.mem_map.1 h
  rfl
theorem bv_cells {w : World} {a : Addr} {l : List Nat} (h : ∀ i n, l[i]? = some n → w.cell? (a.add i) = some (bv n)) : ∀ j u, (l.map bv)[j]? = some u → w.cell? (a.add j) = some u := by
  intro j u hu
  rw [List.getElem?_map] at hu
  cases e : l[j]? with
  | none => rw [e] at hu; cases hu
  | some n =>
    rw [e] at hu
    cases hu
    exact h j n e


end Go.Proofs.YtcibhchbgendaabDoor.By
