/- An act, and a list of acts, as arguments: what lies in memory. -/
import Derived.Test.YtcibhchbgendaaaDoorSfActs
import Derived.Deep.Slices
import Derived.Deep.Fields
import Derived.ChangeSame
import Derived.ChangeSlices
import Derived.Lib.SmallJoins
namespace Go.Proofs.YtcibhchbgendaaaDoor.Sf
open Go Go.RowKit Go.Proofs.YtcibhchbgendaaaDoor.By Go.ChangeShapes Go.WideShapes Go.Deep Go.Joins

theorem cells_int : Tryd.prog.cellsOf 3 = 1 := by kernel_rfl
theorem cells_bool : Tryd.prog.cellsOf 4 = 1 := by kernel_rfl
theorem cells_u8 : Tryd.prog.cellsOf 5 = 1 := by kernel_rfl
theorem cells_bytes : Tryd.prog.cellsOf 23 = 1 := by kernel_rfl
theorem act_cells : Tryd.prog.cellsOf 26 = 7 := by kernel_rfl
section
variable {H : Type} {enc : TypeId × Value → H} {W : World}

/-- bytes that are read -/
theorem read_bytes {n : Nat} {v : Value} {y : DataW H × List MemPlace} (h : DataW.trod enc Tryd.prog W 0 (fun _ => true) true n 23 [v] = some y) : ∃ l, BRow W v l := by
  rcases open_ints Tryd.underlying23 Tryd.underlying5 (by kernel_rfl) h with ⟨hcs, _⟩ | ⟨x, l, c, zs, hcs, _, hl, hm, hz, _, hcell, hwz⟩
  · simp at hcs
    subst hcs
    exact ⟨[], .inl ⟨rfl, rfl⟩⟩
  · simp at hcs
    subst hcs
    obtain ⟨l, _, h⟩ := IsRow.bytes (w := W) (a := some x) (len := l) (cap := c) (zs := zs) (.inr ⟨_, rfl, hl, hm, by simpa using hz, hcell, hwz⟩)
    exact ⟨l, h⟩
theorem read_byte {n : Nat} {v : Value} {y : DataW H × List MemPlace} (h : DataW.trod enc Tryd.prog W 0 (fun _ => true) true n 5 [v] = some y) : ∃ k : Nat, k < 256 ∧ v = .int .u8 (k : Int) := by
  obtain ⟨x, hc, _, hw⟩ := DataW.trod_int Tryd.underlying5 h
  simp at hc
  subst hc
  simp only [Lit.wf, show IntKind.u8.min = 0 from rfl, show IntKind.u8.max = 255 from rfl, Bool.and_eq_true, decide_eq_true_eq] at hw
  exact ⟨x.toNat, by omega, by rw [Int.toNat_of_nonneg (by omega)]⟩
theorem read_int {n : Nat} {v : Value} {y : DataW H × List MemPlace} (h : DataW.trod enc Tryd.prog W 0 (fun _ => true) true n 3 [v] = some y) : ∃ k : Int, v = .int .i64 k := by
  obtain ⟨x, hc, _, hw⟩ := DataW.trod_int Tryd.underlying3 h
  simp at hc
  exact ⟨x, hc⟩
theorem read_bool {n : Nat} {v : Value} {y : DataW H × List MemPlace} (h : DataW.trod enc Tryd.prog W 0 (fun _ => true) true n 4 [v] = some y) : ∃ k : Bool, v = .bool k := by
  obtain ⟨x, hc, _⟩ := DataW.trod_bool Tryd.underlying4 h
  simp at hc
  exact ⟨x, hc⟩
/-- an act that may be read -/
def AEl.R (W : World) (x : AEl) : Prop := x.a.req < 256 ∧ BRow W x.cv x.a.codes ∧ BRow W x.rv x.a.rc
set_option maxRecDepth 20000 in
theorem read_act {n0 n1 n2 n3 n4 n5 n6 : Nat} {v0 v1 v2 v3 v4 v5 v6 : Value} {y0 y1 y2 y3 y4 y5 y6 : DataW H × List MemPlace}
    (h0 : DataW.trod enc Tryd.prog W 0 (fun _ => true) true n0 3 [v0] = some y0) (h1 : DataW.trod enc Tryd.prog W 0 (fun _ => true) true n1 3 [v1] = some y1) (h2 : DataW.trod enc Tryd.prog W 0 (fun _ => true) true n2 3 [v2] = some y2)
    (h3 : DataW.trod enc Tryd.prog W 0 (fun _ => true) true n3 4 [v3] = some y3) (h4 : DataW.trod enc Tryd.prog W 0 (fun _ => true) true n4 5 [v4] = some y4) (h5 : DataW.trod enc Tryd.prog W 0 (fun _ => true) true n5 23 [v5] = some y5)
    (h6 : DataW.trod enc Tryd.prog W 0 (fun _ => true) true n6 23 [v6] = some y6) : ∃ x : AEl, x.R W ∧ [v0, v1, v2, v3, v4, v5, v6] = x.cells := by
  obtain ⟨k, rfl⟩ := read_int h0
  obtain ⟨c, rfl⟩ := read_int h1
  obtain ⟨m, rfl⟩ := read_int h2
  obtain ⟨b, rfl⟩ := read_bool h3
  obtain ⟨q, hq, rfl⟩ := read_byte h4
  obtain ⟨l, hl⟩ := read_bytes h5
  obtain ⟨r, hr⟩ := read_bytes h6
  exact ⟨⟨⟨k, c, m, b, q, l, r⟩, v5, v6⟩, ⟨hq, hl, hr⟩, rfl⟩
set_option maxRecDepth 20000 in
/-- an act by value -/
theorem open_act {base : Nat} {v : Value} {d : DataW H} {p : List MemPlace} (hv : Value.okWide Tryd.prog W .any base 26 v) (h : DataW.Trod enc Tryd.prog W 0 (fun _ => true) true 26 v d p) : ∃ x : AEl, x.R W ∧ v = aval x.a x.cv x.rv := by
  obtain ⟨cs, rfl, hsz⟩ := okWide_struct Tryd.underlying26 hv
  obtain ⟨l⟩ := cs
  match l, hsz.trans act_cells with
  | [c0, c1, c2, c3, c4, c5, c6], _ =>
    obtain ⟨fuel, hf⟩ := h
    obtain ⟨xs, n, _, hx, _, hlen, hg⟩ := DataW.trod_struct Tryd.underlying26 hf
    match xs, hlen with
    | [y0, y1, y2, y3, y4, y5, y6], _ =>
      obtain ⟨x, hR, he⟩ := read_act (by simpa [Value.cells, cells_int] using hg 0 _ rfl) (by simpa [Value.cells, cells_int] using hg 1 _ rfl) (by simpa [Value.cells, cells_int] using hg 2 _ rfl) (by simpa [Value.cells, cells_bool] using hg 3 _ rfl) (by simpa [Value.cells, cells_u8] using hg 4 _ rfl) (by simpa [Value.cells, cells_bytes] using hg 5 _ rfl) (by simpa [Value.cells, cells_bytes] using hg 6 _ rfl)
      exact ⟨x, hR, by rw [he]; rfl⟩

/-- a list of acts that may be read -/
def ASrc (W : World) (v : Value) (xs : List AEl) : Prop :=
  (v = .slice none 0 0 ∧ xs = []) ∨ ∃ a cap, v = .slice (some a) xs.length cap ∧ xs.length ≤ cap ∧ cap ≤ maxLen ∧ ∀ i x, xs[i]? = some x → x.R W ∧ ∀ j u, x.cells[j]? = some u → W.cell? (a.add (i * 7 + j)) = some u
theorem list_of {α : Type} {Q : Nat → α → Prop} : ∀ n, (∀ i, i < n → ∃ x, Q i x) → ∃ xs : List α, xs.length = n ∧ ∀ i x, xs[i]? = some x → Q i x
  | 0, _ => ⟨[], rfl, fun i x h => by simp at h⟩
  | n + 1, h => by
    obtain ⟨xs, hl, hx⟩ := list_of n (fun i hi => h i (by omega))
    obtain ⟨y, hy⟩ := h n (by omega)
    refine ⟨xs ++ [y], by simp [hl], fun i x hi => ?_⟩
    by_cases e : i < n
    · rw [List.getElem?_append_left (by omega)] at hi
      exact hx i x hi
    · have hi2 := (List.getElem?_eq_some_iff.1 hi).1
      simp at hi2
      obtain rfl : i = n := by omega
      rw [List.getElem?_append_right (by omega), hl, Nat.sub_self] at hi
      cases hi
      exact hy
set_option maxRecDepth 20000 in
theorem open_acts {fuel : Nat} {v : Value} {x : DataW H × List MemPlace} (h : DataW.trod enc Tryd.prog W 0 (fun _ => true) true fuel 22 [v] = some x) : ∃ xs, ASrc W v xs := by
  rcases open_slice Tryd.underlying22 h with ⟨h0, _⟩ | ⟨a, len, cap, m, n, D, Pl, hcs, hb, hl, hm, hmm, hx, hi⟩
  · simp at h0
    exact ⟨[], .inl ⟨h0, rfl⟩⟩
  · simp at hcs
    obtain ⟨xs, hln, hxs⟩ := list_of (Q := fun i (x : AEl) => x.R W ∧ ∀ j u, x.cells[j]? = some u → W.cell? (a.add (i * 7 + j)) = some u) len (fun i hi1 => by
      obtain ⟨cs', hc, ht'⟩ := hi i (by simp at hmm; omega)
      rw [act_cells] at hc
      obtain ⟨ys, n', hn', hy, hlen, hyl, hf⟩ := DataW.trod_struct Tryd.underlying26 ht'
      obtain ⟨_, hcl, hat⟩ := World.cells?_some hc
      match cs', hcl with
      | [c0, c1, c2, c3, c4, c5, c6], _ =>
        match ys, hyl with
        | [y0, y1, y2, y3, y4, y5, y6], _ =>
          obtain ⟨x, hR, he⟩ := read_act (by simpa [Value.cells, cells_int] using hf 0 _ rfl) (by simpa [Value.cells, cells_int] using hf 1 _ rfl) (by simpa [Value.cells, cells_int] using hf 2 _ rfl) (by simpa [Value.cells, cells_bool] using hf 3 _ rfl) (by simpa [Value.cells, cells_u8] using hf 4 _ rfl) (by simpa [Value.cells, cells_bytes] using hf 5 _ rfl) (by simpa [Value.cells, cells_bytes] using hf 6 _ rfl)
          refine ⟨x, hR, fun j u hu => ?_⟩
          rw [← he] at hu
          have hj : j < 7 := by have := (List.getElem?_eq_some_iff.1 hu).1; simpa using this
          rw [← Go.Deep.add_add, hat j (by omega)]
          exact hu)
    refine ⟨xs, .inr ⟨a, cap, by rw [hln]; exact hcs, by omega, hm, hxs⟩⟩
end
end Go.Proofs.YtcibhchbgendaaaDoor.Sf
