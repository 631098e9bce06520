/- Slices of structs that a loop over an iterator collects. -/
import Derived.Test.YtcibhchbgendaabSfMem
import Derived.Test.YtcibhchbgendaabRange
import Derived.RangeFuncBox
import Derived.Maps.AppendAt
namespace Go.Proofs.Ytcibhchbgendaab.Sf
open Go Go.RowKit Go.Proofs.Ytcibhchbgendaab.By Go.Proofs.Ytcibhchbgendaab.Rg

/-- one that is told: identifier, the slice, its bytes, the error -/
structure El where
  id : Nat
  v : Value
  l : List Nat
  e : Int
def El.gh (x : El) : Nat × List Nat × Int := (x.id, x.l, x.e)
def El.fd (x : El) : Nat × List Nat := (x.id, x.l)
def El.encs (x : El) : Array Value := #[.agg #[.int .u8 x.id, x.v], .int .i64 x.e]
def El.cells (x : El) : List Value := [.int .u8 x.id, x.v]
/-- what it holds in memory -/
def El.G (B : Nat) (x : El) (W : World) : Prop := x.id < 256 ∧ BOwn B W x.v x.l

/-- a block that may turn without any bytes of one's own being touched -/
def Safe (N : Nat) (W : World) (row : Option Nat) : Prop := ∀ r, row = some r → (∃ o, W.heap[r]? = some o ∧ o.isCells = false) ∨ r < N ∨ ∃ cs t fr, W.heap[r]? = some (.cells cs t fr) ∧ t ≠ 5
theorem Safe.none (N : Nat) (W : World) : Safe N W none := fun _ h => by cases h
theorem BOwn_safe {N : Nat} {W W' : World} {row : Option Nat} {v : Value} {l : List Nat} (h : BOwn N W v l) (hg : W.grownBy W' row) (hs : Safe N W row) : BOwn N W' v l := by
  refine h.keep fun g n c e => ?_
  obtain ⟨_, _, h2 | ⟨g', cap, cur, h1, h2, h3, _⟩⟩ := h
  · rw [h2.1] at e; cases e
  · rw [h1] at e
    injection e with e
    injection e with e
    injection e with e
    subst e
    refine hg.block g' (Array.getElem?_eq_some_iff.1 h3).1 fun he => ?_
    rcases hs g' he.symm with ⟨o, ho, hc⟩ | hlt | ⟨cs, t, fr, hb, ht⟩
    · rw [h3] at ho; cases ho; cases hc
    · omega
    · rw [h3] at hb
      injection hb with hb
      injection hb with _ hb
      exact ht hb.symm
theorem El.G_safe {N : Nat} {W W' : World} {row : Option Nat} {x : El} (h : x.G N W) (hg : W.grownBy W' row) (hs : Safe N W row) : x.G N W' := ⟨h.1, BOwn_safe h.2 hg hs⟩
/-- what is stable under such turns -/
def Sound {α : Type} (N : Nat) (G : α → World → Prop) : Prop := ∀ x W W' row, G x W → W.grownBy W' row → Safe N W row → G x W'
theorem El.sound (N : Nat) : Sound N (El.G N) := fun _ _ _ _ h hg hs => El.G_safe h hg hs

/-- the box qb holds a slice of one's own of the structs xs -/
def LS {α : Type} (t : TypeId) (sz : Nat) (cells : α → List Value) (G : α → World → Prop) (N qb : Nat) (tq : TypeId) (xs : List α) (W : World) : Prop :=
  ∃ v, Boxed W qb tq v ∧ W.ownsRow N t sz v xs.length (xs.flatMap cells) ∧ ∀ x ∈ xs, G x W
section
variable {α : Type} {t tq : TypeId} {sz N qb : Nat} {cells : α → List Value} {G : α → World → Prop}
theorem LS.start {W : World} (h : Boxed W qb tq (.slice none 0 0)) : LS t sz cells G N qb tq [] W := ⟨_, h, World.ownsRow_nil _ _ _ _, by simp⟩
theorem row_kept {W W' : World} {row : Option Nat} {v : Value} {k : Nat} {xs : List Value} (h : W.ownsRow N t sz v k xs) (hg : W.grownBy W' row) (hr : ∀ r, row = some r → (∃ o, W.heap[r]? = some o ∧ o.isCells = false) ∨ r < N) : W'.ownsRow N t sz v k xs := by
  refine h.kept hg ?_
  rcases h.2 with ⟨h2, _⟩ | ⟨g, cap, cur, h1, h2, h3, _⟩
  · exact .inl (by rw [h2]; rfl)
  · refine .inr fun e => ?_
    rw [h1] at e
    rcases hr g e.symm with ⟨o, ho, hc⟩ | hlt
    · rw [h3] at ho; cases ho; cases hc
    · omega
theorem LS.grown {W W' : World} {row : Option Nat} {xs : List α} (h : LS t sz cells G N qb tq xs W) (hG : Sound N G) (hg : W.grownBy W' row) (hr : ∀ r, row = some r → (∃ o, W.heap[r]? = some o ∧ o.isCells = false) ∨ (r < N ∧ r ≠ qb)) : LS t sz cells G N qb tq xs W' := by
  obtain ⟨v, h1, h2, h3⟩ := h
  refine ⟨v, h1.kept hg fun e => ?_, row_kept h2 hg fun r e => ?_, fun x hx => hG x W W' row (h3 x hx) hg fun r e => ?_⟩
  · rcases hr qb e.symm with ⟨o, ho, hc⟩ | ⟨_, hne⟩
    · rw [show W.heap[qb]? = _ from h1] at ho; cases ho; cases hc
    · exact hne rfl
  · rcases hr r e with h | h
    · exact .inl h
    · exact .inr h.1
  · rcases hr r e with h | h
    · exact .inl h
    · exact .inr (.inl h.1)
theorem LS.below {W W' : World} {xs : List α} (h : LS t sz cells G N qb tq xs W) (hG : Sound N G) (hb : Below W.heap.size W W') : LS t sz cells G N qb tq xs W' :=
  h.grown hG ⟨hb.os, hb.tape, hb.output, hb.size, fun i hi _ => hb.block i hi⟩ (row := none) (fun r e => by cases e)
theorem LS.alloc {W : World} {xs : List α} (h : LS t sz cells G N qb tq xs W) (hG : Sound N G) (o : Obj) : LS t sz cells G N qb tq xs (W.alloc o) := h.below hG ((Below.refl _ _).alloc (Nat.le_refl _) o)
theorem LS.own (hG : Sound N G) : Own (fun xs W => LS t sz cells G N qb tq xs W) := fun _ _ _ _ h hg hr => h.grown hG hg fun r e => .inl (hr r e)

/-- 'out = append(out, x)': behind the law's two words all that is owed -/
theorem LS.appended {W w1 : World} {v v' : Value} {xs : List α} {x : α} {tmp : Obj} (hv : Boxed W qb tq v) (hrow : W.ownsRow N t sz v xs.length (xs.flatMap cells)) (hall : ∀ y ∈ xs, G y W) (hx : G x W) (hG : Sound N G)
    (ht8 : t ≠ 5) (hq8 : tq ≠ 5) (hte : tq ≠ t) (hN : N ≤ W.heap.size) (hown' : w1.ownsRow N t sz v' (xs.length + 1) (xs.flatMap cells ++ cells x)) (hgrow : (W.alloc tmp).grownBy w1 v.ownBlock) :
    Boxed w1 qb tq v ∧ LS t sz cells G N qb tq (xs ++ [x]) (w1.setCell ⟨qb, 0, none⟩ v') ∧ KeepsOthers W (w1.setCell ⟨qb, 0, none⟩ v') ∧
    (∀ i, i < N → i ≠ qb → (w1.setCell ⟨qb, 0, none⟩ v').heap[i]? = W.heap[i]?) ∧ (∀ C, C ≤ N → C ≤ qb → Below C W (w1.setCell ⟨qb, 0, none⟩ v')) ∧ W.heap.size ≤ (w1.setCell ⟨qb, 0, none⟩ v').heap.size := by
  have hv1 : Boxed w1 qb tq v := (hv.alloc tmp).kept hgrow (hv.not_row hte hrow)
  have hsafe : Safe N (W.alloc tmp) v.ownBlock := fun r e => by
    rcases (hrow.alloc tmp).2 with ⟨rfl, _⟩ | ⟨g, cap, cur, rfl, _, hgb, _⟩
    · simp [Value.ownBlock] at e
    · obtain rfl : g = r := by simpa [Value.ownBlock] using e
      exact .inr (.inr ⟨_, _, _, hgb, ht8⟩)
  have hstep : ∀ y, G y W → G y (w1.setCell ⟨qb, 0, none⟩ v') := fun y hy =>
    hG y _ _ _ (hG y _ _ _ (hG y _ _ _ hy (World.grownBy_alloc W tmp none) (Safe.none _ _)) hgrow hsafe) (grownBy_setCell' w1 qb v') (fun r e => by
      injection e with e
      subst e
      exact .inr (.inr ⟨_, _, _, hv1, hq8⟩))
  refine ⟨hv1, ⟨v', hv1.set v', ?_, fun y hy => ?_⟩, ?_, fun i hi hne => ?_, fun C hC hCq => ?_, ?_⟩
  · have h := hown'.kept (grownBy_setCell' w1 qb v') (.inr (hv1.not_row hte hown').symm)
    simpa using h
  · rcases List.mem_append.1 hy with hy | hy
    · exact hstep y (hall y hy)
    · simp at hy; subst hy; exact hstep y hx
  · refine ((KeepsOthers.alloc W tmp).trans (KeepsOthers.of_grownBy hgrow fun j o ej hj => ?_)).trans (KeepsOthers.setCell _ _ _)
    rcases (hrow.alloc tmp).2 with ⟨rfl, _⟩ | ⟨g, cap, cur, rfl, _, hgb, _⟩
    · simp [Value.ownBlock] at ej
    · obtain rfl : g = j := by simpa [Value.ownBlock] using ej
      rw [hgb] at hj; cases hj; rfl
  · rw [Below.heap_setCell w1 ⟨qb, 0, none⟩ v' i hne]
    have hlt : i < W.heap.size := by omega
    refine (hgrow.block i (by simp; omega) fun e => ?_).trans (Below.heap_alloc W tmp i hlt)
    rcases hrow.2 with ⟨rfl, _⟩ | ⟨g, cap, cur, rfl, hb, _, _⟩
    · simp [Value.ownBlock] at e
    · have : i = g := by simpa [Value.ownBlock] using e
      omega
  · refine (((Below.refl C W).alloc (by omega) tmp).grown hgrow (by simp; omega) fun j ej => ?_).setCell (p := ⟨qb, 0, none⟩) hCq v'
    rcases hrow.2 with ⟨rfl, _⟩ | ⟨g, cap, cur, rfl, hb, _, _⟩
    · simp [Value.ownBlock] at ej
    · obtain rfl : g = j := by simpa [Value.ownBlock] using ej
      omega
  · have h1 := hgrow.size
    simp [World.setCell] at h1 ⊢
    omega
end
theorem cells_lit (w : World) (cs : List Value) (t : TypeId) : ∀ j u, cs[j]? = some u → (w.alloc (.cells cs.toArray t)).cell? ((⟨w.heap.size, 0, none⟩ : Addr).add j) = some u := fun j u h => by
  rw [addr_add0, Nat.zero_add, cell_of_row _ w.heap.size j cs.toArray t (0, 0) (heap_alloc_new w _)]
  simpa using h

theorem row_form {N : Nat} {W : World} {t : TypeId} {sz : Nat} {v : Value} {k : Nat} {xs : List Value} (h : W.ownsRow N t sz v k xs) : ∃ a c, v = .slice a k c := by
  rcases h.2 with ⟨h1, h2⟩ | ⟨g, cap, cur, h1, _⟩
  · rw [h2]; exact ⟨_, _, h1⟩
  · exact ⟨_, _, h1⟩
theorem Bk_putObj {W : World} {B l : Nat} {t : TypeId} {cs : Array Value} {o : Obj} (o' : Obj) (h : Bk W B t cs) (hl : W.heap[l]? = some o) (hc : o.isCells = false) : Bk (W.putObj l o') B t cs :=
  (World.putObj_heap_other (fun e => by subst e; unfold Bk at h; rw [h] at hl; cases hl; cases hc)).trans h
/-- the slice of one's own goes over into another box -/
theorem LS.moved {α : Type} {t tq : TypeId} {sz N r1 : Nat} {cells : α → List Value} {G : α → World → Prop} {W : World} {v : Value} {xs : List α} (hrow : W.ownsRow N t sz v xs.length (xs.flatMap cells)) (hall : ∀ x ∈ xs, G x W) (hG : Sound N G) {u : Value} (hr : Boxed W r1 tq u) (hte : tq ≠ t) (hq8 : tq ≠ 5) :
    LS t sz cells G N r1 tq xs (W.setCell ⟨r1, 0, none⟩ v) :=
  ⟨v, hr.set v, hrow.kept (grownBy_setCell' W r1 v) (.inr (hr.not_row hte hrow).symm), fun x hx => hG x _ _ _ (hall x hx) (grownBy_setCell' W r1 v) (fun r e => by
    injection e with e
    subst e
    exact .inr (.inr ⟨_, _, _, hr, hq8⟩))⟩
/-- which blocks may turn while a loop goes on -/
def Turns (N q : Nat) (W : World) (row : Option Nat) : Prop := ∀ r, row = some r → (N ≤ r ∧ ∃ o, W.heap[r]? = some o ∧ o.isCells = false) ∨ r = q
section
variable {α : Type} {t tq te : TypeId} {sz N qo r1 r2 q : Nat} {cells : α → List Value} {G : α → World → Prop} {w : World}
theorem LS.turn {W W' : World} {row : Option Nat} {xs : List α} (h : LS t sz cells G N qo tq xs W) (hG : Sound N G) (hg : W.grownBy W' row) (ht : Turns N q W row) (hq : q < N) (hne : q ≠ qo) : LS t sz cells G N qo tq xs W' :=
  h.grown hG hg fun r e => by
    rcases ht r e with h | h
    · exact .inl h.2
    · exact .inr ⟨by omega, by omega⟩
theorem Boxed_turn {W W' : World} {row : Option Nat} {B : Nat} {t : TypeId} {v : Value} (h : Boxed W B t v) (hg : W.grownBy W' row) (ht : Turns N q W row) (hne : q ≠ B) : Boxed W' B t v :=
  h.kept hg fun e => by
    rcases ht B e.symm with ⟨_, o, ho, hc⟩ | h
    · rw [show W.heap[B]? = _ from h] at ho; cases ho; cases hc
    · exact hne h.symm
theorem Below_turn {W W' : World} {row : Option Nat} {B : Nat} (h : Below B w W) (hB : B ≤ w.heap.size) (hg : W.grownBy W' row) (ht : Turns N q W row) (hN : B ≤ N) (hq : B ≤ q) : Below B w W' :=
  h.grown hg (Nat.le_trans hB h.size) fun k e => by
    rcases ht k e with h | h
    · omega
    · omega
/-- what a collecting loop holds between two rounds -/
def CI (t : TypeId) (sz : Nat) (cells : α → List Value) (G : α → World → Prop) (N qo r1 r2 : Nat) (tq te : TypeId) (w : World) (good : List α) (W : World) : Prop :=
  LS t sz cells G N qo tq good W ∧ Boxed W r1 tq (.slice none 0 0) ∧ Boxed W r2 te (.int .i64 0) ∧ Below w.heap.size w W ∧ N ≤ W.heap.size
/-- what it holds when it has told an error -/
def CX (t : TypeId) (sz : Nat) (cells : α → List Value) (G : α → World → Prop) (N r1 r2 : Nat) (tq te : TypeId) (w : World) (er : Int) (good : List α) (W : World) : Prop :=
  LS t sz cells G N r1 tq good W ∧ Boxed W r2 te (.int .i64 er) ∧ Below w.heap.size w W
theorem CI.turn {good : List α} {W W' : World} {row : Option Nat} (h : CI t sz cells G N qo r1 r2 tq te w good W) (hG : Sound N G) (hg : W.grownBy W' row) (ht : Turns N q W row) (hq : w.heap.size ≤ q ∧ q < N) (hne : q ≠ qo ∧ q ≠ r1 ∧ q ≠ r2) : CI t sz cells G N qo r1 r2 tq te w good W' :=
  ⟨h.1.turn hG hg ht hq.2 hne.1, Boxed_turn h.2.1 hg ht hne.2.1, Boxed_turn h.2.2.1 hg ht hne.2.2, Below_turn h.2.2.2.1 (Nat.le_refl _) hg ht (by omega) hq.1, Nat.le_trans h.2.2.2.2 hg.size⟩
theorem CX.turn {er : Int} {good : List α} {W W' : World} {row : Option Nat} (h : CX t sz cells G N r1 r2 tq te w er good W) (hG : Sound N G) (hg : W.grownBy W' row) (ht : Turns N q W row) (hq : w.heap.size ≤ q ∧ q < N) (hne : q ≠ r1 ∧ q ≠ r2) : CX t sz cells G N r1 r2 tq te w er good W' :=
  ⟨h.1.turn hG hg ht hq.2 hne.1, Boxed_turn h.2.1 hg ht hne.2, Below_turn h.2.2 (Nat.le_refl _) hg ht (by omega) hq.1⟩
end
theorem KeepsOthers_of_below {W W' : World} (h : Below W.heap.size W W') : KeepsOthers W W' := ⟨h.size, fun k _ hk _ => (h.block k (Array.getElem?_eq_some_iff.1 hk).1).trans hk⟩
theorem row_lower {N M : Nat} {W : World} {t : TypeId} {sz : Nat} {v : Value} {k : Nat} {xs : List Value} (h : W.ownsRow N t sz v k xs) (hM : M ≤ N) : W.ownsRow M t sz v k xs :=
  ⟨h.1, h.2.imp id fun ⟨g, cap, cur, h1, h2, h3⟩ => ⟨g, cap, cur, h1, Nat.le_trans hM h2, h3⟩⟩
theorem El.G_lower {N M : Nat} {W : World} {x : El} (h : x.G N W) (hM : M ≤ N) : x.G M W := ⟨h.1, h.2.lower hM⟩
theorem El.gh_ok {xs : List El} (h : ∀ x ∈ xs, x.e = 0) : xs.map El.gh = (xs.map El.fd).map okEl := by
  rw [List.map_map]
  apply List.map_congr_left
  intro x hx
  simp [El.gh, El.fd, okEl, h x hx]
theorem load_plain {P : Program} (W : World) (t : TypeId) (a : Addr) (v : Value) (hag : (isAgg t).run P W = .ok false W) (h : W.cell? a = some v) : (loadVar t a).run P W = .ok v W := by
  simp [loadVar, Sem.run_bind, hag, go_sem, h]
theorem results_boxes2 {P : Program} {fn : Func} {p q : Tmp} {tp tq : TypeId} (h : fn.results = #[.cell p tp, .cell q tq]) (tmps : Array Value) (W : World) (a1 a2 : Addr) (v1 v2 : Value)
    (hp : tmps.getD p undef = .pointer (some a1)) (hq : tmps.getD q undef = .pointer (some a2)) (h1 : (isAgg tp).run P W = .ok false W) (h2 : (isAgg tq).run P W = .ok false W) (c1 : W.cell? a1 = some v1) (c2 : W.cell? a2 = some v2) :
    (results fn tmps).run P W = .ok (.tuple #[v1, v2]) W := by
  have hp' : tmps[p]?.getD undef = .pointer (some a1) := by simpa using hp
  have hq' : tmps[q]?.getD undef = .pointer (some a2) := by simpa using hq
  simp [results, h, hp', hq', asAddr, Sem.run_bind, load_plain W tp a1 v1 h1 c1, load_plain W tq a2 v2 h2 c2, Result.andThen]
theorem allocs4 (w : World) (o0 o1 o2 o3 : Obj) : ∃ W, W = (((w.alloc o0).alloc o1).alloc o2).alloc o3 ∧ W.heap[w.heap.size]? = some o0 ∧ W.heap[w.heap.size + 1]? = some o1 ∧ W.heap[w.heap.size + 1 + 1]? = some o2 ∧ W.heap[w.heap.size + 1 + 1 + 1]? = some o3 ∧
    W.heap.size = w.heap.size + 4 ∧ Below w.heap.size w W := by
  have up : ∀ (V : World) (o : Obj) (i : Nat) (x : Obj), V.heap[i]? = some x → (V.alloc o).heap[i]? = some x := fun V o i x h => (Below.heap_alloc V o i (Array.getElem?_eq_some_iff.1 h).1).trans h
  have new : ∀ (V : World) (o : Obj) (i : Nat), V.heap.size = i → (V.alloc o).heap[i]? = some o := fun V o i h => by rw [← h]; exact heap_alloc_new V o
  refine ⟨_, rfl, up _ _ _ _ (up _ _ _ _ (up _ _ _ _ (new _ _ _ rfl))), up _ _ _ _ (up _ _ _ _ (new _ _ _ (by simp))), up _ _ _ _ (new _ _ _ (by simp)), new _ _ _ (by simp), by simp, ?_⟩
  exact ((((Below.refl _ _).alloc (Nat.le_refl _) _).alloc (by simp) _).alloc (by simp; omega) _).alloc (by simp; omega) _
theorem allocs5 (w : World) (o0 o1 o2 o3 o4 : Obj) : ∃ W, W = ((((w.alloc o0).alloc o1).alloc o2).alloc o3).alloc o4 ∧ W.heap[w.heap.size]? = some o0 ∧ W.heap[w.heap.size + 1]? = some o1 ∧ W.heap[w.heap.size + 1 + 1]? = some o2 ∧ W.heap[w.heap.size + 1 + 1 + 1]? = some o3 ∧
    W.heap[w.heap.size + 1 + 1 + 1 + 1]? = some o4 ∧ W.heap.size = w.heap.size + 5 ∧ Below w.heap.size w W := by
  have up : ∀ (V : World) (o : Obj) (i : Nat) (x : Obj), V.heap[i]? = some x → (V.alloc o).heap[i]? = some x := fun V o i x h => (Below.heap_alloc V o i (Array.getElem?_eq_some_iff.1 h).1).trans h
  have new : ∀ (V : World) (o : Obj) (i : Nat), V.heap.size = i → (V.alloc o).heap[i]? = some o := fun V o i h => by rw [← h]; exact heap_alloc_new V o
  refine ⟨_, rfl, up _ _ _ _ (up _ _ _ _ (up _ _ _ _ (up _ _ _ _ (new _ _ _ rfl)))), up _ _ _ _ (up _ _ _ _ (up _ _ _ _ (new _ _ _ (by simp)))), up _ _ _ _ (up _ _ _ _ (new _ _ _ (by simp))), up _ _ _ _ (new _ _ _ (by simp)), new _ _ _ (by simp), by simp, ?_⟩
  exact (((((Below.refl _ _).alloc (Nat.le_refl _) _).alloc (by simp) _).alloc (by simp; omega) _).alloc (by simp; omega) _).alloc (by simp; omega) _
end Go.Proofs.Ytcibhchbgendaab.Sf
