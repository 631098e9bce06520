/- A page in memory. -/
import Derived.Test.YtcibhchbgendaabVw
import Derived.Test.YtcibhchbgendaabPgPure
import Derived.Test.YtcibhchbgendaabProg
import Derived.Maps.Own
import Derived.Maps.OwnSet
import Derived.KernelRfl
namespace Go.Proofs.Ytcibhchbgendaab.Pg
open Go Go.RowKit Go.Maps

/-- the cells of a page: its number, the Once's word, the lock's word, the signs, the codes -/
def pgc (k d st : Int) (l : List Int) (m : Value) : Array Value := (Value.int .i64 k :: .int .u32 d :: .int .i32 st :: .int .u32 0 :: (l.map (Value.int .i32) ++ [m])).toArray
section
variable {k d st : Int} {l : List Int} {m : Value}
theorem pgc_num : (pgc k d st l m)[0]? = some (.int .i64 k) := by simp [pgc]
theorem pgc_done : (pgc k d st l m)[1]? = some (.int .u32 d) := by simp [pgc]
theorem pgc_lock : (pgc k d st l m)[2]? = some (.int .i32 st) := by simp [pgc]
theorem pgc_sign {c : Nat} (h : c < l.length) : (pgc k d st l m)[4 + c]? = some (.int .i32 (l.getD c 0)) := by
  have e : 4 + c = c + 1 + 1 + 1 + 1 := by omega
  simp only [pgc, e, List.getElem?_toArray, List.getElem?_cons_succ]
  rw [List.getElem?_append_left (by simpa using h)]
  simp [List.getElem?_eq_getElem h, List.getD_eq_getElem?_getD]
theorem pgc_map (h : l.length = 256) : (pgc k d st l m)[260]? = some m := by
  have e : 260 = 256 + 1 + 1 + 1 + 1 := by omega
  simp only [pgc, e, List.getElem?_toArray, List.getElem?_cons_succ]
  rw [List.getElem?_append_right (by simp [h])]
  simp [h]
theorem pgc_set_sign {c : Nat} (h : c < l.length) (s : Int) : (pgc k d st l m).setIfInBounds (4 + c) (.int .i32 s) = pgc k d st (l.set c s) m := by
  have e : 4 + c = c + 1 + 1 + 1 + 1 := by omega
  simp only [pgc, e, List.setIfInBounds_toArray, List.set_cons_succ]
  rw [List.set_append_left _ _ (by simpa using h), List.map_set]
theorem pgc_set_map (h : l.length = 256) (m' : Value) : (pgc k d st l m).setIfInBounds 260 m' = pgc k d st l m' := by
  have e : 260 = 256 + 1 + 1 + 1 + 1 := by omega
  simp only [pgc, e, List.setIfInBounds_toArray, List.set_cons_succ]
  rw [List.set_append_right _ _ (by simp [h])]
  simp [h]
theorem pgc_set_done (d' : Int) : (pgc k d st l m).setIfInBounds 1 (.int .u32 d') = pgc k d' st l m := by
  simp [pgc]
theorem pgc_set_lock (st' : Int) : (pgc k d st l m).setIfInBounds 2 (.int .i32 st') = pgc k d st' l m := by
  simp [pgc]
end

/-- the map of codes, when n signs have been laid -/
def mapD (k : Int) : Nat → DataW Unit
  | 0 => .map []
  | n + 1 => (mapD k n).put (.int .i32 (signOf k n)) (.lit (.int .u8 n))
theorem mapD_isMap (k : Int) (n : Nat) : IsMap (mapD k n) := by
  induction n with
  | zero => exact isMap_empty
  | succ n ih => exact ih.put _ _
theorem mapD_has (k s : Int) (n : Nat) : has (mapD k n) (.int .i32 s) = (codeTo k s n).isSome := by
  induction n with
  | zero => rfl
  | succ n ih =>
    unfold mapD codeTo
    by_cases e : signOf k n = s
    · rw [if_pos e, e, has_put_same (mapD_isMap k n) (by simp [WideAt.IsKeyLit])]; rfl
    · rw [if_neg e, has_put_other (by simpa using fun h => e h.symm), ih]
theorem mapD_atKey (k s : Int) (n : Nat) (z : DataW Unit) : (mapD k n).atKey (.int .i32 s) z = match codeTo k s n with | some c => .lit (.int .u8 c) | none => z := by
  induction n with
  | zero => rfl
  | succ n ih =>
    unfold mapD codeTo
    by_cases e : signOf k n = s
    · rw [if_pos e, e, atKey_put_same (mapD_isMap k n) (by simp [WideAt.IsKeyLit])]
    · rw [if_neg e, atKey_put_other (by simpa using fun h => e h.symm), ih]

/-- a page that hasn't been asked yet; one that is built -/
def Fresh (w : World) (b : Nat) (k : Int) : Prop := Bk w b 122 (pgc k 0 0 (prog 0) (.map none))
def Built (w : World) (b : Nat) (k : Int) : Prop :=
  ∃ m, Bk w b 122 (pgc k 1 0 (signs k) (.map (some m))) ∧ w.ownsMap Try.prog 21 (plainElem Try.prog 5) m 256 (mapD k 256)
def PageAt (w : World) (b : Nat) (k : Int) : Prop := IsNum k ∧ (Fresh w b k ∨ Built w b k)

theorem ownsMap_block {w w' : World} {m n : Nat} {D : DataW Unit} (h : w.ownsMap Try.prog 21 (plainElem Try.prog 5) m n D) (hb : w'.heap[m]? = w.heap[m]?) : w'.ownsMap Try.prog 21 (plainElem Try.prog 5) m n D := by
  obtain ⟨es, clock, h1, h2⟩ := h
  exact ⟨es, clock, hb.trans h1, h2⟩
theorem ownsMap_lt {w : World} {m n : Nat} {D : DataW Unit} (h : w.ownsMap Try.prog 21 (plainElem Try.prog 5) m n D) : m < w.heap.size := by
  obtain ⟨es, clock, h1, _⟩ := h
  exact (Array.getElem?_eq_some_iff.1 h1).1
theorem ownsMap_ne {w : World} {m n g : Nat} {D : DataW Unit} {t : TypeId} {cs : Array Value} (h : w.ownsMap Try.prog 21 (plainElem Try.prog 5) m n D) (hg : Bk w g t cs) : m ≠ g := by
  rintro rfl
  obtain ⟨es, clock, h1, _⟩ := h
  unfold Bk at hg
  rw [hg] at h1
  cases h1
theorem PageAt.lt {w : World} {b : Nat} {k : Int} (h : PageAt w b k) : b < w.heap.size := by
  rcases h.2 with h | ⟨_, h, _⟩ <;> exact h.lt
/-- a page lies as it lay while other blocks of cells turn -/
theorem PageAt.grown {w w' : World} {b : Nat} {k : Int} {row : Option Nat} (h : PageAt w b k) (hg : w.grownBy w' row) (hb : some b ≠ row) (hr : ∀ g, row = some g → ∀ es c, w.heap[g]? ≠ some (.map es c)) : PageAt w' b k := by
  refine ⟨h.1, ?_⟩
  rcases h.2 with h | ⟨m, h, hm⟩
  · exact .inl (h.grown hg hb)
  · refine .inr ⟨m, h.grown hg hb, ownsMap_block hm (hg.block m (ownsMap_lt hm) (fun e => ?_))⟩
    obtain ⟨es, c, h1, _⟩ := hm
    exact hr m e.symm es c h1
theorem PageAt.below {w w' : World} {b : Nat} {k : Int} (h : PageAt w b k) (hb : Below w.heap.size w w') : PageAt w' b k :=
  h.grown (gb_below hb none) (by simp) (fun g e => by cases e)
theorem PageAt.alloc {w : World} {b : Nat} {k : Int} (h : PageAt w b k) (o : Obj) : PageAt (w.alloc o) b k := h.below ((Below.refl _ _).alloc (Nat.le_refl _) o)
theorem PageAt.drew {w : World} {b : Nat} {k : Int} (h : PageAt w b k) : PageAt w.drew b k := h
theorem PageAt.drewN {w : World} {b : Nat} {k : Int} (h : PageAt w b k) (n : Nat) : PageAt (w.drewN n) b k := h
/-- a store into another block of cells -/
theorem PageAt.set {w : World} {b : Nat} {k : Int} (h : PageAt w b k) {p : Addr} {x : Value} (hp : w.cell? p = some x) (hb : b ≠ p.block) (u : Value) : PageAt (w.setCell p u) b k := by
  refine h.grown (gb_set (g := p.block) (gb_refl w (some p.block)) (.inl rfl) u) (by simpa using hb) (fun g e es c hh => ?_)
  cases e
  simp [World.cell?, hh] at hp
/-- another page's turn -/
theorem PageAt.other {w w' : World} {b b2 : Nat} {k : Int} {t : TypeId} {cs : Array Value} (h : PageAt w b k) (hg : w.grownBy w' (some b2)) (hne : b ≠ b2) (h2 : Bk w b2 t cs) : PageAt w' b k :=
  h.grown hg (by simpa using hne) (fun g e es c hh => by cases e; unfold Bk at h2; rw [h2] at hh; cases hh)
theorem PageAt.bk {w : World} {b : Nat} {k : Int} (h : PageAt w b k) : ∃ cs, Bk w b 122 cs := by
  rcases h.2 with h | ⟨_, h, _⟩ <;> exact ⟨_, h⟩
end Go.Proofs.Ytcibhchbgendaab.Pg
