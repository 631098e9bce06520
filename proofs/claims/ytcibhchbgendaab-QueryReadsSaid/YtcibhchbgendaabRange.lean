/- A range over a function whose iterator keeps its own variable in a box (which the kit's laws on ranges over functions leave out): the contract, and the law for the caller. After the kit's law 'wpIn_rangeFunc_ownF', whose lemmas serve here. -/
import Derived.RangeFuncNested
import Derived.RangeFuncBound
import Derived.RangeFuncCalls
import Derived.RangeFuncLeaves
import Derived.RangeFuncFrom
import Derived.ControlIn
namespace Go.Proofs.Ytcibhchbgendaab.Rg
open Go Go.RowKit

/-- what new blocks, and the box q, may not turn -/
def Stays {β : Type} (q : Nat) (J : β → World → Prop) : Prop :=
  ∀ s W W' row, J s W → W.grownBy W' row → (row = none ∨ row = some q) → J s W'
/-- the blocks on the list lie as they lay -/
def Lie (L : List Nat) (W W' : World) : Prop := (∀ i ∈ L, W'.heap[i]? = W.heap[i]?) ∧ W.heap.size ≤ W'.heap.size
theorem Lie.trans {L : List Nat} {A B C : World} (h : Lie L A B) (k : Lie L B C) : Lie L A C := ⟨fun i hi => (k.1 i hi).trans (h.1 i hi), Nat.le_trans h.2 k.2⟩
theorem Lie.refl (L : List Nat) (A : World) : Lie L A A := ⟨fun _ _ => rfl, Nat.le_refl _⟩
theorem size_putObj (W : World) (l : Nat) (o : Obj) : (W.putObj l o).heap.size = W.heap.size := by simp [World.putObj]

section
variable {F : Fence} {n : Nat} {P : Program}
/-- the iterator's contract: it gives the elements xs of S, or stops behind some, a round having said so; of each it hands over, G says what it holds in memory -/
def SeqBox {α : Type} (F : Fence) (n : Nat) (P : Program) (gf : Nat) (lb : Array Value) (encs : α → Array Value) (q : Nat) (L : List Nat) (G : α → World → Prop) (S Sp : List α → Prop) (w : World) : Prop :=
  ∀ (l : Nat) (J Jx : List α → World → Prop) (W : World), Below w.heap.size w W → Stays q J → Stays q Jx →
    (∀ pre x W1, J pre W1 → G x W1 → Sp (pre ++ [x]) → YieldAt F (n - 1) P l (encs x) W1 fun e W' =>
      (e = .returned (.bool true) ∧ J (pre ++ [x]) W' ∧ Lie L W1 W') ∨ (e = .returned (.bool false) ∧ Jx (pre ++ [x]) W')) →
    J [] W →
    CallsIn F n P gf (#[.func (.yield l) #[] #[]] ++ lb) W fun e W' => (∃ v, e = .returned v) ∧ ((∃ xs, S xs ∧ J xs W') ∨ (∃ pre, Sp pre ∧ Jx pre W'))

/-- how a round's body may be left -/
def boxPost {α : Type} (L : List Nat) (I : List α → World → Prop) (Ix : Code → List α → World → Prop) (xs : List α) (W : World) : Exit → Act → World → Prop
  | .normal, _, W' => KeepsOthers W W' ∧ Lie L W W' ∧ I xs W'
  | .ret, _, W' => KeepsOthers W W' ∧ Ix .ret xs W'
  | .exit id, _, W' => KeepsOthers W W' ∧ Ix (.exit id) xs W'
  | .goto t, _, W' => KeepsOthers W W' ∧ Ix (.goto t) xs W'
  | .panic _, _, _ => False
  | .outgrown, _, _ => False

theorem wpIn_rangeBox {α : Type} {g : Operand} {ps : Array Tmp} {assign body : Code} {Q : Exit → Act → World → Prop} {a : Act} {w : World}
    (hro : F.round = none) (h1 : 1 ≤ n) {gf : Nat} {lb : Array Value} (hg : a.eval g = .func (.func gf) #[] lb) (hFg : F.fn gf) (eg : ∀ args w, (callFunc gf args).run P w = .ok (.enter gf args) w)
    {encs : α → Array Value} {q : Nat} {L : List Nat} {G : α → World → Prop} {S Sp : List α → Prop} {w0 : World} (hseq : SeqBox F (n - 1) P gf lb encs q L G S Sp w0) (hG : ∀ x (W : World) (l : Nat) (o o' : Obj), G x W → W.heap[l]? = some o → o.isCells = false → G x (W.putObj l o'))
    (hq : ∃ cs t fr, w.heap[q]? = some (.cells cs t fr)) (hL : ∀ i ∈ L, i < w.heap.size) (hb0 : Below w0.heap.size w0 w) (hps : ∀ x, (encs x).size = ps.size)
    (I : List α → World → Prop) (Ix : Code → List α → World → Prop) (hI : OwnFrom w.heap.size I) (hIx : ∀ c, OwnFrom w.heap.size (Ix c)) (hIq : Stays q I) (hIxq : ∀ c, Stays q (Ix c)) (h0 : I [] w) (Ax : α → Act → World → Prop) (hAx : ∀ x a' (W : World) (l : Nat) (o o' : Obj), Ax x a' W → W.heap[l]? = some o → o.isCells = false → Ax x a' (W.putObj l o'))
    (hassign : ∀ (l : Nat) (pre : List α) (x : α) (W : World) (K : Act → World → Prop), I pre W → G x W → (∀ a' W', KeepsOthers W W' → Lie L W W' → I pre W' → G x W' → Ax x a' W' → K a' W') →
      assign.wpIn (F.inRound l) (n - 1 - 1) P (Exit.then K (fun _ _ _ => False)) { tmps := (ps.zip (encs x)).foldl (fun t (p, v) => t.setIfInBounds p v) a.tmps, defers := [] } W)
    (hbody : ∀ (l : Nat) (pre : List α) (x : α) (a' : Act) (W : World), I pre W → G x W → Sp (pre ++ [x]) → Ax x a' W → body.wpIn (F.inRound l) (n - 1 - 1) P (boxPost L I Ix (pre ++ [x]) W) a' W)
    (hdone : ∀ (D : Nat) (xs : List α) (W : World), w.heap.size ≤ D → S xs → I xs W → W.heap[D]? = some (.deferred (some [])) → Q .normal { a with defers := { target := .collected D, args := #[] } :: a.defers } W)
    (hstop : ∀ (D : Nat) (c : Code) (pre : List α) (W : World), w.heap.size ≤ D → Sp pre → Ix c pre W → W.heap[D]? = some (.deferred (some [])) → c.wpIn F n P Q { a with defers := { target := .collected D, args := #[] } :: a.defers } W) :
    (Code.rangeFunc g ps assign body).wpIn F n P Q a w := by
  have hqlt : q < w.heap.size := by
    obtain ⟨cs, t, fr, h⟩ := hq
    exact (Array.getElem?_eq_some_iff.1 h).1
  refine wpIn_rangeFunc fun fn hfn => ?_
  rw [hro]
  obtain ⟨rec, hrec⟩ : ∃ rec : LoopState → Option Code → Loop, rec = fun st pe => { state := st, pending := pe, fn, tmps := a.tmps, params := ps, assign, body, defers := w.heap.size } := ⟨_, rfl⟩
  obtain ⟨W1, hW1⟩ : ∃ W1, (w.alloc (.deferred (some []))).alloc (.loop (rec .ready none)) = W1 := ⟨_, rfl⟩
  have hL1 : W1.heap[w.heap.size + 1]? = some (.loop (rec .ready none)) := by
    rw [← hW1]
    have := World.alloc_heap_new (w.alloc (.deferred (some []))) (.loop (rec .ready none))
    rwa [World.size_alloc] at this
  have hK1 : W1.heap[w.heap.size]? = some (.deferred (some [])) := by
    rw [← hW1]
    exact (Below.heap_alloc _ _ _ (by simp)).trans (World.alloc_heap_new w _)
  have hI1 : I [] W1 := by rw [← hW1]; exact hI.alloc _ (hI.alloc _ h0)
  have hb1 : Below w0.heap.size w0 W1 := by
    rw [← hW1]
    exact hb0.trans ((((Below.refl _ w).alloc (Nat.le_refl _) _).alloc (by simp) _).mono hb0.size)
  -- the two objects that the loop itself has laid stand while the iterator goes on
  have book : ∀ {A B : World} {row : Option Nat} {k : Nat} {o : Obj}, w.heap.size ≤ k → A.heap[k]? = some o → A.grownBy B row → (row = none ∨ row = some q) → B.heap[k]? = some o := by
    intro A B row k o hk ho hgr hrow
    refine (hgr.block k (Array.getElem?_eq_some_iff.1 ho).1 ?_).trans ho
    rcases hrow with rfl | rfl
    · simp
    · intro e
      injection e with e
      omega
  refine ⟨w.heap.size + 1, [{ target := .collected w.heap.size, args := #[] }], W1, { target := .fn (.func gf) lb, args := #[.func (.yield (w.heap.size + 1)) #[] #[]] }, W1, gf,
    #[.func (.yield (w.heap.size + 1)) #[] #[]] ++ lb, W1, ?_, ?_, ?_, ?_, fun _ => h1, ?_⟩
  · rw [← hW1, hrec]; exact run_enterLoop_outer _ _ _ _ _
  · simp only [resolve, hg]
    simp [go_sem]
  · intro f' hf'
    simp [Target.leads] at hf'
    subst hf'
    exact hFg
  · simp [invoke, go_sem, eg]
  · refine (hseq (w.heap.size + 1)
      (fun pre W => I pre W ∧ W.heap[w.heap.size + 1]? = some (.loop (rec .ready none)) ∧ W.heap[w.heap.size]? = some (.deferred (some [])))
      (fun pre W => ∃ c, Ix c pre W ∧ W.heap[w.heap.size + 1]? = some (.loop (rec .done (some c))) ∧ W.heap[w.heap.size]? = some (.deferred (some [])))
      W1 hb1
      (fun s A B row hs hgr hrow => ⟨hIq s A B row hs.1 hgr hrow, book (by omega) hs.2.1 hgr hrow, book (Nat.le_refl _) hs.2.2 hgr hrow⟩)
      (fun s A B row hs hgr hrow => by
        obtain ⟨c, hc, hl, hk⟩ := hs
        exact ⟨c, hIxq c s A B row hc hgr hrow, book (by omega) hl hgr hrow, book (Nat.le_refl _) hk hgr hrow⟩)
      ?_ ⟨hI1, hL1, hK1⟩).mono ?_
    · rintro pre x W ⟨hi, hl, hk⟩ hg hsp
      have hy := run_yield (P := P) (args := encs x) hl (by rw [hrec]; exact hps x)
      rw [hrec] at hy
      refine ⟨fn, _, assign, body, hy, roundIn_of_wpIn hfn (hassign _ pre x W _ hi hg fun a' Wa hka hla hia hga haa => ?_)⟩
      have hl0 := hka.same _ _ hl rfl
      have hk0 := hka.same _ _ hk rfl
      refine ⟨_, run_beginRound hl0 (by rw [hrec]), ?_⟩
      obtain ⟨Wb, hWb⟩ : ∃ Wb, Wa.putObj (w.heap.size + 1) (.loop { rec .ready none with state := .busy }) = Wb := ⟨_, rfl⟩
      have hlt : w.heap.size + 1 < Wa.heap.size := (Array.getElem?_eq_some_iff.1 hl0).1
      rw [hWb]
      have hl2 : Wb.heap[w.heap.size + 1]? = some (.loop { rec .ready none with state := .busy }) := by rw [← hWb]; exact World.putObj_heap_same hlt
      have hk2 : Wb.heap[w.heap.size]? = some (.deferred (some [])) := by rw [← hWb]; exact (World.putObj_heap_other (by omega)).trans hk0
      have hw2 : Lie L W Wb := hla.trans ⟨fun i hi => by rw [← hWb]; exact World.putObj_heap_other (by have := hL i hi; omega), by rw [← hWb, size_putObj]; exact Nat.le_refl _⟩
      have hi2 : I pre Wb := by rw [← hWb]; exact hI.putObj _ hia (by omega) hl0 rfl
      have hg2 : G x Wb := by rw [← hWb]; exact hG x Wa _ _ _ hga hl0 rfl
      have ha2 : Ax x a' Wb := by rw [← hWb]; exact hAx x a' Wa _ _ _ haa hl0 rfl
      refine wpIn_mono (hbody _ pre x a' _ hi2 hg2 hsp ha2) ?_
      have fin : ∀ (jump : Option Code) (W3 : World), KeepsOthers Wb W3 →
          (Instr.endRound (w.heap.size + 1) jump).run P W3 = .ok (.bool jump.isNone) (W3.putObj (w.heap.size + 1) (.loop (rec (if jump.isNone then .ready else .done) jump))) ∧
          W3.heap[w.heap.size + 1]? = some (.loop { rec .ready none with state := .busy }) ∧
          (W3.putObj (w.heap.size + 1) (.loop (rec (if jump.isNone then .ready else .done) jump))).heap[w.heap.size + 1]? = some (.loop (rec (if jump.isNone then .ready else .done) jump)) ∧
          (W3.putObj (w.heap.size + 1) (.loop (rec (if jump.isNone then .ready else .done) jump))).heap[w.heap.size]? = some (.deferred (some [])) := fun jump W3 hk3 => by
        have hl3 := hk3.same _ _ hl2 rfl
        have h := run_endRound (P := P) jump hl3
        rw [hrec] at h ⊢
        exact ⟨h, by rw [hrec] at hl3; exact hl3, World.putObj_heap_same (Array.getElem?_eq_some_iff.1 hl3).1, (World.putObj_heap_other (by omega)).trans (hk3.same _ _ hk2 rfl)⟩
      rintro e a3 W3 hp
      cases e with
      | normal =>
        obtain ⟨hk3, hkp3, hi3⟩ := hp
        obtain ⟨hr, hl3, hl4, hk4⟩ := fin none W3 hk3
        exact ⟨_, _, hr, .inl ⟨rfl, ⟨hI.putObj _ hi3 (by omega) hl3 rfl, hl4, hk4⟩, (hw2.trans hkp3).trans ⟨fun i hi => World.putObj_heap_other (by have := hL i hi; omega), by rw [size_putObj]; exact Nat.le_refl _⟩⟩⟩
      | ret =>
        obtain ⟨hk3, hi3⟩ := hp
        obtain ⟨hr, hl3, hl4, hk4⟩ := fin (some .ret) W3 hk3
        exact ⟨_, _, hr, .inr ⟨rfl, .ret, (hIx _).putObj _ hi3 (by omega) hl3 rfl, hl4, hk4⟩⟩
      | exit id =>
        obtain ⟨hk3, hi3⟩ := hp
        obtain ⟨hr, hl3, hl4, hk4⟩ := fin (some (.exit id)) W3 hk3
        exact ⟨_, _, hr, .inr ⟨rfl, .exit id, (hIx _).putObj _ hi3 (by omega) hl3 rfl, hl4, hk4⟩⟩
      | goto t =>
        obtain ⟨hk3, hi3⟩ := hp
        obtain ⟨hr, hl3, hl4, hk4⟩ := fin (some (.goto t)) W3 hk3
        exact ⟨_, _, hr, .inr ⟨rfl, .goto t, (hIx _).putObj _ hi3 (by omega) hl3 rfl, hl4, hk4⟩⟩
      | panic ch => exact hp.elim
      | outgrown => exact hp.elim
    · rintro e W2 ⟨⟨v, rfl⟩, (⟨xs, hS, hi, hl, hk⟩ | ⟨pre, hSp, c, hi, hl, hk⟩)⟩
      · exact ⟨none, _, by have h := run_endLoop (P := P) hl (by rw [hrec]; simp); rw [hrec] at h; exact h, hdone _ xs _ (Nat.le_refl _) hS (hI.putObj _ hi (by omega) hl rfl) ((World.putObj_heap_other (by omega)).trans hk)⟩
      · exact ⟨some c, _, by have h := run_endLoop (P := P) hl (by rw [hrec]; simp); rw [hrec] at h; exact h, hstop _ c pre _ (Nat.le_refl _) hSp ((hIx c).putObj _ hi (by omega) hl rfl) ((World.putObj_heap_other (by omega)).trans hk)⟩
end
end Go.Proofs.Ytcibhchbgendaab.Rg
