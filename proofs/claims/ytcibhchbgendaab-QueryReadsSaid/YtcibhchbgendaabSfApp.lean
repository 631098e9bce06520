/- Bytes appended to bytes of one's own; literals of bytes. -/
import Derived.Test.YtcibhchbgendaabSfMem
import Derived.Laws.AppendOwnNone
namespace Go.Proofs.Ytcibhchbgendaab.Sf
open Go Go.RowKit Go.Proofs.Ytcibhchbgendaab.By

theorem own_lit (w : World) (l : List Nat) (hl : l.length ≤ 1000) (hb : ∀ n ∈ l, n < 256) : BOwn w.heap.size (w.alloc (.cells (l.map bv).toArray 5)) (.slice (some ⟨w.heap.size, 0, none⟩) l.length l.length) l :=
  ⟨hb, by simp, .inr ⟨w.heap.size, l.length, (l.map bv).toArray, rfl, Nat.le_refl _, heap_alloc_new w _, Nat.le_refl _, by unfold maxLen; omega, by simp, by rw [Nat.mul_one]; exact List.take_of_length_le (by simp)⟩⟩

theorem wpList_append_brow {w : World} {ops : Array Oper} {rest : List Oper} {o : Oper} {a : Act} {Q : Exit → Act → World → Prop} (hgd : o.guard = none) (s x : Operand)
    (ho : o.op = .call { callee := .builtin .append, args := #[s, x], argTypes := #[22, 22] }) (B : Nat) (v : Value) (l : List Nat) (hs : a.eval s = v) (hown : BOwn B w v l)
    (src : Value) (sl : List Nat) (hx : a.eval x = src) (hsrc : BRow w src sl) (hB : B ≤ w.heap.size) (hsum : l.length + sl.length ≤ 1000000)
    (hK : ∀ p c w', BOwn B w' (.slice p (l ++ sl).length c) (l ++ sl) → w.grownBy w' v.ownBlock → wpList Try.prog ops Q rest (a.put o.dst (.slice p (l ++ sl).length c)) w') : wpList Try.prog ops Q (o :: rest) a w := by
  obtain ⟨i0, hi, hz0, hz1, hz2⟩ := info_parts u8_info
  have hb := hsrc.bound
  rcases hsrc with ⟨rfl, rfl⟩ | ⟨ad, cap, rfl, h2, h3, h4, h5⟩
  · refine wpList_append_own_none hgd s x _ ho B 5 i0 1 Try.underlying22 hi v l.length (l.map bv) hs hown.2 hx ?_
    obtain ⟨p, c, rfl⟩ := BOwn_form hown
    have h := hK p c w (by rw [List.append_nil]; exact hown) (gb_refl _ _)
    rw [List.append_nil] at h
    exact h
  · refine wpList_append_own w hgd s x _ ho B 5 i0 (.int .u8 0) 1 1 Try.underlying22 hi hz0 hz1 hz2 rfl (by decide) v l.length (l.map bv) hs hown.2 ad sl.length cap (sl.map bv) hx (by simp) (bv_cells h4) (fun u hu => bv_cell u sl hu) (by unfold maxLen; omega) (by omega) hB ?_
    intro v' w' hown' hgrow _
    have hbo : BOwn B w' v' (l ++ sl) := by
      refine ⟨?_, by rw [List.length_append, List.map_append]; exact hown'⟩
      intro k hk
      rcases List.mem_append.1 hk with hk | hk
      · exact hown.1 k hk
      · exact hb k hk
    obtain ⟨p, c, rfl⟩ := BOwn_form hbo
    exact hK p c w' hbo hgrow
end Go.Proofs.Ytcibhchbgendaab.Sf
