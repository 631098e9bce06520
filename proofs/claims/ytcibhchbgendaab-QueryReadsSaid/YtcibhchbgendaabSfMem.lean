/- Words for memory in the proofs about structured fields. -/
import Derived.Test.YtcibhchbgendaabSfAct
import Derived.Test.YtcibhchbgendaabBy
import Derived.Laws.Rows
import Derived.Test.YtcibhchbgendaabShelf
namespace Go.Proofs.Ytcibhchbgendaab.Sf
open Go Go.RowKit Go.Proofs.Ytcibhchbgendaab.By

theorem BOwn_nil {B : Nat} {w : World} : BOwn B w (.slice none 0 0) [] := ⟨by simp, by simp, .inl ⟨rfl, rfl⟩⟩
theorem BOwn_form {B : Nat} {w : World} {v : Value} {l : List Nat} (h : BOwn B w v l) : ∃ a c, v = .slice a l.length c := by
  rcases h.row with ⟨rfl, rfl⟩ | ⟨a, c, rfl, _⟩
  · exact ⟨_, _, rfl⟩
  · exact ⟨_, _, rfl⟩
/-- what lies at a place of bytes of one's own -/
theorem BOwn_cell {B : Nat} {w : World} {g n cap : Nat} {l : List Nat} (h : BOwn B w (.slice (some ⟨g, 0, none⟩) n cap) l) {i x : Nat} (hi : l[i]? = some x) : w.cell? ⟨g, i, none⟩ = some (.int .u8 x) := by
  rcases h.row with ⟨h, _⟩ | ⟨a, c, h1, _, _, h4, _⟩
  · cases h
  · injection h1 with h1
    injection h1 with h1
    subst h1
    have := h4 i x hi
    rw [addr_add0, Nat.zero_add] at this
    exact this
theorem BOwn_at {B : Nat} {w : World} {v : Value} {l : List Nat} (h : BOwn B w v l) {i x : Nat} (hi : l[i]? = some x) : ∃ g cap, v = .slice (some ⟨g, 0, none⟩) l.length cap ∧ w.cell? ⟨g, i, none⟩ = some (.int .u8 x) := by
  have h' := h
  obtain ⟨_, _, h2 | ⟨g, cap, cur, h1, h2, h3, h4⟩⟩ := h
  · have : l = [] := List.length_eq_zero_iff.1 h2.2
    subst this
    cases hi
  · subst h1
    exact ⟨g, cap, rfl, BOwn_cell h' hi⟩

theorem bcell {W w1 : World} (hb : Below W.heap.size W w1) : (∀ b o, b < W.heap.size → w1.cell? ⟨b, o, none⟩ = W.cell? ⟨b, o, none⟩) ∧ (∀ b o, b < W.heap.size → w1.frozen? ⟨b, o, none⟩ = W.frozen? ⟨b, o, none⟩) :=
  ⟨fun b o h => hb.cell (p := ⟨b, o, none⟩) h, fun b o h => hb.frozen (p := ⟨b, o, none⟩) h⟩

theorem results_struct_tmp {P : Program} {fn : Func} {p q : Tmp} {ty : TypeId} (h : fn.results = #[.cell p ty, .tmp q]) (tmps : Array Value) (w : World) (g : Nat) (t : TypeId) (cs : Array Value) (fr : Nat × Nat) (d : TypeDesc)
    (hp : tmps.getD p undef = .pointer (some ⟨g, 0, none⟩)) (hg : w.heap[g]? = some (.cells cs t fr))
    (hu : P.underlying ty = some d) (hd : (match d with | .struct _ | .array _ _ => true | _ => false) = true) (hi : (P.info? ty).map (·.size) = some cs.size) :
    (results fn tmps).run P w = .ok (.tuple #[.agg cs, tmps.getD q undef]) w := by
  have hp' : tmps[p]?.getD undef = .pointer (some ⟨g, 0, none⟩) := by simpa using hp
  simp [results, h, hp', asAddr, run_loadVar_row w g t ty cs fr d hg hu hd hi]
theorem fill7 (z0 z1 z2 z3 z4 z5 z6 a0 a1 a2 a3 a4 a5 a6 : Value) : ((((((((#[z0, z1, z2, z3, z4, z5, z6] : Array Value).setIfInBounds 0 a0).setIfInBounds 1 a1).setIfInBounds 2 a2).setIfInBounds 3 a3).setIfInBounds 4 a4).setIfInBounds 5 a5).setIfInBounds 6 a6) = #[a0, a1, a2, a3, a4, a5, a6] := by simp
theorem Bk_fill7 {W : World} {g : Nat} {t : TypeId} {z0 z1 z2 z3 z4 z5 z6 : Value} (h : Bk W g t #[z0, z1, z2, z3, z4, z5, z6]) (a0 a1 a2 a3 a4 a5 a6 : Value) :
    Bk (((((((W.setCell ⟨g, 0, none⟩ a0).setCell ⟨g, 1, none⟩ a1).setCell ⟨g, 2, none⟩ a2).setCell ⟨g, 3, none⟩ a3).setCell ⟨g, 4, none⟩ a4).setCell ⟨g, 5, none⟩ a5).setCell ⟨g, 6, none⟩ a6) g t #[a0, a1, a2, a3, a4, a5, a6] :=
  fill7 z0 z1 z2 z3 z4 z5 z6 a0 a1 a2 a3 a4 a5 a6 ▸ ((((((h.set 0 a0).set 1 a1).set 2 a2).set 3 a3).set 4 a4).set 5 a5).set 6 a6
theorem below_fill7 {B : Nat} {w W : World} (h : Below B w W) {g : Nat} (hg : B ≤ g) (a0 a1 a2 a3 a4 a5 a6 : Value) :
    Below B w (((((((W.setCell ⟨g, 0, none⟩ a0).setCell ⟨g, 1, none⟩ a1).setCell ⟨g, 2, none⟩ a2).setCell ⟨g, 3, none⟩ a3).setCell ⟨g, 4, none⟩ a4).setCell ⟨g, 5, none⟩ a5).setCell ⟨g, 6, none⟩ a6) :=
  ((((((h.setCell (p := ⟨g, 0, none⟩) hg a0).setCell (p := ⟨g, 1, none⟩) hg a1).setCell (p := ⟨g, 2, none⟩) hg a2).setCell (p := ⟨g, 3, none⟩) hg a3).setCell (p := ⟨g, 4, none⟩) hg a4).setCell (p := ⟨g, 5, none⟩) hg a5).setCell (p := ⟨g, 6, none⟩) hg a6

theorem heap_fill7 (W : World) (g i : Nat) (hi : i ≠ g) (a0 a1 a2 a3 a4 a5 a6 : Value) : (((((((W.setCell ⟨g, 0, none⟩ a0).setCell ⟨g, 1, none⟩ a1).setCell ⟨g, 2, none⟩ a2).setCell ⟨g, 3, none⟩ a3).setCell ⟨g, 4, none⟩ a4).setCell ⟨g, 5, none⟩ a5).setCell ⟨g, 6, none⟩ a6).heap[i]? = W.heap[i]? := by
  have h : ∀ (V : World) (o : Nat) (u : Value), (V.setCell ⟨g, o, none⟩ u).heap[i]? = V.heap[i]? := fun V o u => Below.heap_setCell V _ u i hi
  rw [h, h, h, h, h, h, h]
theorem Bk_far7 {W : World} {g h : Nat} {t : TypeId} {cs : Array Value} (hb : Bk W h t cs) (hn : h ≠ g) (a0 a1 a2 a3 a4 a5 a6 : Value) : Bk (((((((W.setCell ⟨g, 0, none⟩ a0).setCell ⟨g, 1, none⟩ a1).setCell ⟨g, 2, none⟩ a2).setCell ⟨g, 3, none⟩ a3).setCell ⟨g, 4, none⟩ a4).setCell ⟨g, 5, none⟩ a5).setCell ⟨g, 6, none⟩ a6) h t cs := (heap_fill7 W g h hn _ _ _ _ _ _ _).trans hb
theorem BOwn_fill7 {B g : Nat} {W : World} {v : Value} {l : List Nat} (h : BOwn B W v l) (hg : g < B) (a0 a1 a2 a3 a4 a5 a6 : Value) : BOwn B (((((((W.setCell ⟨g, 0, none⟩ a0).setCell ⟨g, 1, none⟩ a1).setCell ⟨g, 2, none⟩ a2).setCell ⟨g, 3, none⟩ a3).setCell ⟨g, 4, none⟩ a4).setCell ⟨g, 5, none⟩ a5).setCell ⟨g, 6, none⟩ a6) v l :=
  h.keep fun g' n c e => heap_fill7 W g g' (by
    rcases h.lt with h | ⟨g2, n2, c2, h, h2, _⟩
    · rw [h] at e; cases e
    · rw [h] at e; injection e with e; injection e with e; injection e with e; subst e; omega) _ _ _ _ _ _ _
/-- a part of bytes: where it begins is told only if room is left -/
theorem slice_part (b o c h n : Nat) (h3 : 3 ≤ h) (hc : h ≤ c) : ∃ A3 : Addr, (c ≠ 3 → A3 = ⟨b, o + 3, none⟩) ∧
    ∀ w : World, (Instr.slice 22 (.slice (some ⟨b, o, none⟩) n c) (some (.int .i64 3)) (some (.int .i64 (h : Int))) none).run Try.prog w = .ok (.slice (some A3) (h - 3) (c - 3)) w := by
  refine ⟨if c = 3 then ⟨b, o, none⟩ else ⟨b, o + 3, none⟩, fun hn => if_neg hn, fun w => ?_⟩
  rw [run_slice_lh w 22 (some ⟨b, o, none⟩) n c (by kernel_rfl) .i64 .i64 3 h (by omega) (by omega) (by omega)]
  have hz : (sizeOf (Try.prog.elem 22)).run Try.prog w = .ok 1 w := by kernel_rfl
  rw [hz]
  simp only [Result.andThen, sliced]
  by_cases e : c = 3
  · simp [e]
  · simp [e, addr_add0]
theorem slice_rest (b o c h n : Nat) (h3 : h ≤ n) : ∃ A4 : Addr, (c ≠ h → A4 = ⟨b, o + h, none⟩) ∧ (∃ o', A4 = ⟨b, o', none⟩) ∧
    ∀ w : World, (Instr.slice 22 (.slice (some ⟨b, o, none⟩) n c) (some (.int .i64 (h : Int))) none none).run Try.prog w = .ok (.slice (some A4) (n - h) (c - h)) w := by
  refine ⟨if c = h then ⟨b, o, none⟩ else ⟨b, o + h, none⟩, fun hn => if_neg hn, ?_, fun w => ?_⟩
  · split
    · exact ⟨_, rfl⟩
    · exact ⟨_, rfl⟩
  · rw [run_slice_l w 22 (some ⟨b, o, none⟩) n c (by kernel_rfl) .i64 h (by omega) (by omega)]
    have hz : (sizeOf (Try.prog.elem 22)).run Try.prog w = .ok 1 w := by kernel_rfl
    rw [hz]
    simp only [Result.andThen, sliced]
    by_cases e : c = h
    · simp [e]
    · simp [e, addr_add0]
/-- the rest of bytes of one's own, as a slice -/
theorem BOwn_rest {B : Nat} {w : World} {g n cap : Nat} {l : List Nat} (h : BOwn B w (.slice (some ⟨g, 0, none⟩) n cap) l) (k : Nat) (hk : k ≤ n) : n = l.length ∧ ∃ A4 : Addr, A4.block = g ∧
    (∀ W : World, W.heap[g]? = w.heap[g]? → BRow W (.slice (some A4) (n - k) (cap - k)) (l.drop k)) ∧
    ∀ w : World, (Instr.slice 22 (.slice (some ⟨g, 0, none⟩) n cap) (some (.int .i64 (k : Int))) none none).run Try.prog w = .ok (.slice (some A4) (n - k) (cap - k)) w := by
  have hn : n = l.length := by
    obtain ⟨a, c, e⟩ := BOwn_form h
    injection e
  refine ⟨hn, ?_⟩
  obtain ⟨A4, h1, ⟨o', h2⟩, h3⟩ := slice_rest g 0 cap k n hk
  refine ⟨A4, by rw [h2], fun W hW => ?_, h3⟩
  have hw : BOwn B W (.slice (some ⟨g, 0, none⟩) n cap) l := h.keep fun g' _ _ e => by
    injection e with e; injection e with e; injection e with e; subst e; exact hW
  have hcap : n ≤ cap ∧ cap ≤ maxLen := by
    rcases h.row with ⟨e, _⟩ | ⟨a, c, e, h4, h5, _⟩
    · cases e
    · injection e with e1 e2 e3; omega
  have hlen : (l.drop k).length = n - k := by simp [hn]
  refine .inr ⟨A4, cap - k, by rw [hlen], by omega, by omega, fun i x hx => ?_, fun x hx => h.1 x (List.mem_of_mem_drop hx)⟩
  have hc : cap ≠ k := by
    intro e
    have : l.drop k = [] := List.length_eq_zero_iff.1 (by omega)
    rw [this] at hx
    cases hx
  rw [List.getElem?_drop] at hx
  rw [h1 hc, addr_add0, Nat.zero_add]
  exact BOwn_cell hw hx
theorem clone_own (v : Value) (l : List Nat) (w : World) (hv : BRow w v l) (h47 : l.length ≤ 140737488351232) :
    Calls Try.prog 88 #[v] w fun e w' => ∃ a c, e = .returned (.slice a l.length c) ∧ BOwn w.heap.size w' (.slice a l.length c) l ∧ Below w.heap.size w w' := by
  have hb := hv.bound
  rcases hv with ⟨rfl, rfl⟩ | ⟨a, cap, rfl, h2, h3, h4, h5⟩
  · refine (Try.bytes_Clone_nil 0 0 w).mono ?_
    rintro e w' ⟨rfl, rfl⟩
    exact ⟨_, _, rfl, BOwn_nil, Below.refl _ _⟩
  · refine (Try.bytes_Clone_at a l.length cap (l.map Int.ofNat) w (by simp) (by omega) ?_).mono ?_
    · intro i hi
      rw [h4 i l[i] (List.getElem?_eq_getElem hi)]
      simp [bv, List.getD_eq_getElem?_getD, List.getElem?_eq_getElem hi]
    · rintro e w' ⟨v', rfl, ho, hne, hbel⟩
      have e : (l.map Int.ofNat).map (Value.int .u8) = l.map bv := by rw [List.map_map]; rfl
      rw [e] at ho
      have hB : BOwn w.heap.size w' v' l := ⟨hb, ho⟩
      obtain ⟨a', c', rfl⟩ := BOwn_form hB
      exact ⟨a', c', rfl, hB, hbel⟩

theorem cells7 {W : World} {g : Nat} {t : TypeId} {z0 z1 z2 z3 z4 z5 z6 : Value} (h : Bk W g t #[z0, z1, z2, z3, z4, z5, z6]) : W.cell? ⟨g, 0, none⟩ = some z0 ∧ W.cell? ⟨g, 1, none⟩ = some z1 ∧ W.cell? ⟨g, 2, none⟩ = some z2 ∧ W.cell? ⟨g, 3, none⟩ = some z3 ∧ W.cell? ⟨g, 4, none⟩ = some z4 ∧ W.cell? ⟨g, 5, none⟩ = some z5 ∧ W.cell? ⟨g, 6, none⟩ = some z6 :=
  ⟨h.cellv rfl, h.cellv rfl, h.cellv rfl, h.cellv rfl, h.cellv rfl, h.cellv rfl, h.cellv rfl⟩
theorem frozen7 {W : World} {g : Nat} {t : TypeId} {cs : Array Value} (h : Bk W g t cs) : W.frozen? ⟨g, 0, none⟩ = false ∧ W.frozen? ⟨g, 1, none⟩ = false ∧ W.frozen? ⟨g, 2, none⟩ = false ∧ W.frozen? ⟨g, 3, none⟩ = false ∧ W.frozen? ⟨g, 4, none⟩ = false ∧ W.frozen? ⟨g, 5, none⟩ = false ∧ W.frozen? ⟨g, 6, none⟩ = false :=
  ⟨h.frozen 0, h.frozen 1, h.frozen 2, h.frozen 3, h.frozen 4, h.frozen 5, h.frozen 6⟩

/-- an act as a value -/
def aval (a : A) (cv rv : Value) : Value := .agg #[.int .i64 a.kind, .int .i64 a.command, .int .i64 a.mode, .bool a.alt, .int .u8 (a.req : Int), cv, rv]
/-- how a call ends that tells an act, or why there is none -/
def ActEnd (r : A × Int) (B : Nat) (e : Ending) (w' : World) : Prop := ∃ cv rv, e = .returned (.tuple #[aval r.1 cv rv, .int .i64 r.2]) ∧ BOwn B w' cv r.1.codes ∧ BOwn B w' rv r.1.rc
theorem ActEnd_of (a : A) (x : Int) (B : Nat) (w' : World) (cv rv : Value) (h1 : BOwn B w' cv a.codes) (h2 : BOwn B w' rv a.rc) : ActEnd (a, x) B (.returned (.tuple #[aval a cv rv, .int .i64 x])) w' := ⟨cv, rv, rfl, h1, h2⟩
end Go.Proofs.Ytcibhchbgendaab.Sf
