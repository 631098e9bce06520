/- The walk of vitrinelaw21.same: are two lists of fields alike. -/
import Derived.Test.YtcibhchbgendaabSfFields
import Derived.Test.YtcibhchbgendaabBySame
import Derived.Deep.QuietTactic
import Derived.BigQuiet
namespace Go.Proofs.Ytcibhchbgendaab.Sf
open Go Go.RowKit Go.Proofs.Ytcibhchbgendaab.By

theorem flat_at {α : Type} (c : α → List Value) (n : Nat) (hc : ∀ x, (c x).length = n) : ∀ (xs : List α) (i j : Nat) (x : α), xs[i]? = some x → j < n → (xs.flatMap c)[i * n + j]? = (c x)[j]?
  | [], i, j, x, h, _ => by simp at h
  | y :: xs, 0, j, x, h, hj => by
    simp at h
    subst h
    rw [List.flatMap_cons, Nat.zero_mul, Nat.zero_add, List.getElem?_append_left (by rw [hc]; exact hj)]
  | y :: xs, i + 1, j, x, h, hj => by
    rw [List.getElem?_cons_succ] at h
    rw [List.flatMap_cons, List.getElem?_append_right (by rw [hc, Nat.add_mul]; omega), hc]
    have e : (i + 1) * n + j - n = i * n + j := by rw [Nat.add_mul]; omega
    rw [e]
    exact flat_at c n hc xs i j x h hj
theorem FRow_cells {t : TypeId} {B : Nat} {W : World} {g n cap : Nat} {xs : List El} (h : FRow t B W (.slice (some ⟨g, 0, none⟩) n cap) xs) {i : Nat} {x : El} (hi : xs[i]? = some x) :
    W.cell? ⟨g, i * 2, none⟩ = some (.int .u8 (x.id : Int)) ∧ W.cell? ⟨g, i * 2 + 1, none⟩ = some x.v := by
  have hlt := (List.getElem?_eq_some_iff.1 hi).1
  obtain ⟨hr, _⟩ := h
  have hn : n = xs.length := by
    obtain ⟨a, c, e⟩ := row_form hr
    injection e
  subst hn
  refine ⟨?_, ?_⟩
  · rw [hr.cellAt (i * 2) (by omega)]
    have := flat_at El.cells 2 (fun _ => rfl) xs i 0 x hi (by decide)
    rw [Nat.add_zero] at this
    exact this
  · rw [hr.cellAt (i * 2 + 1) (by omega)]
    exact flat_at El.cells 2 (fun _ => rfl) xs i 1 x hi (by decide)
theorem FRow_form {t : TypeId} {B : Nat} {W : World} {v : Value} {xs : List El} (h : FRow t B W v xs) : (v = .slice none 0 0 ∧ xs = []) ∨ ∃ g c, v = .slice (some ⟨g, 0, none⟩) xs.length c := by
  rcases h.1.2 with ⟨h1, h2⟩ | ⟨g, cap, cur, h1, _⟩
  · exact .inl ⟨h1, List.length_eq_zero_iff.1 h2⟩
  · exact .inr ⟨_, _, h1⟩
theorem FRow_len {t : TypeId} {B : Nat} {W : World} {v : Value} {xs : List El} (h : FRow t B W v xs) : xs.length ≤ 9223372036854775807 := by
  rcases h.1.2 with ⟨h1, h2⟩ | ⟨g, cap, cur, h1, _, _, h2, h3, _⟩
  · omega
  · unfold maxLen at h3; omega
theorem FRow_below {t : TypeId} {B : Nat} {W W' : World} {v : Value} {xs : List El} (h : FRow t B W v xs) (hb : Below W.heap.size W W') : FRow t B W' v xs :=
  have hg : W.grownBy W' none := ⟨hb.os, hb.tape, hb.output, hb.size, fun i hi _ => hb.block i hi⟩
  ⟨row_kept h.1 hg (fun r e => by cases e), fun x hx => El.G_safe (h.2 x hx) hg (Safe.none _ _)⟩
theorem FRow_drewN {t : TypeId} {B : Nat} {W : World} {v : Value} {xs : List El} (h : FRow t B W v xs) (n : Nat) : FRow t B (W.drewN n) v xs := h

theorem quiet_add_same {P : Program} {f : FuncId} {args : Array Value} {w : World} {a n : Nat} {v : Value}
    (h : Calls P f args (w.drewN (a + n)) fun e w' => e = .returned v ∧ w' = w.drewN (a + n)) :
    Calls P f args (w.drewN (a + n)) fun e w'' => e = .returned v ∧ ∃ m, w'' = w.drewN (a + m) :=
  h.mono fun _ _ ⟨he, hm⟩ => ⟨he, n, hm⟩
/-- how it ends: it says whether they are alike -/
def SameEnd (b : Bool) (w : World) (e : Ending) (w' : World) : Prop := e = .returned (.bool b) ∧ ∃ n, w' = w.drewN n

end Go.Proofs.Ytcibhchbgendaab.Sf
