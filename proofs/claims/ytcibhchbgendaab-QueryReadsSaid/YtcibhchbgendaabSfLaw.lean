/- Structured fields as lists: what is written is read again. -/
import Derived.Test.YtcibhchbgendaabSfAct
namespace Go.Proofs.Ytcibhchbgendaab.Sf

theorem elsOf_bytes (x : Nat × List Nat) (r : List Nat) (h : 3 + x.2.length ≤ 65535) : elsOf (bytesOf x ++ r) = okEl x :: elsOf r := by
  obtain ⟨id, d⟩ := x
  simp only at h
  have e : bytesOf (id, d) ++ r = ((3 + d.length) / 256 % 256) :: ((3 + d.length) % 256) :: id :: (d ++ r) := rfl
  have hh : hdr (bytesOf (id, d) ++ r) = 3 + d.length := by
    rw [e]
    unfold hdr
    rw [if_pos ⟨by simp, by
      show (3 + d.length) / 256 % 256 ≠ 0 ∨ (3 + d.length) % 256 ≠ 0
      omega⟩]
    show 256 * ((3 + d.length) / 256 % 256) + (3 + d.length) % 256 = _
    omega
  have hl : (bytesOf (id, d) ++ r).length = 3 + d.length + r.length := by rw [e]; simp; omega
  have hb : ¬ bad (bytesOf (id, d) ++ r) := by unfold bad; rw [hh, hl]; omega
  rw [elsOf_good (by rw [e]; simp) hb, hh]
  have h1 : ((bytesOf (id, d) ++ r).take (3 + d.length)).drop 3 = d := by
    rw [e, show 3 + d.length = d.length + 1 + 1 + 1 by omega]
    simp
  have h2 : (bytesOf (id, d) ++ r).drop (3 + d.length) = r := by
    rw [e, show 3 + d.length = d.length + 1 + 1 + 1 by omega]
    simp
  rw [h1, h2]
  rfl
theorem fieldsOf_eq {l : List Nat} {fs : List (Nat × List Nat)} {e : Int} (h : elsOf l = fs.map okEl ++ (if e = 0 then [] else [(0, [], 2)])) (he : e = 0 ∨ e = 2) : fieldsOf l = fs ∧ endOf l = e := by
  have hf : fieldsOf l = fs := by
    unfold fieldsOf
    rw [h, List.filter_append, List.map_append, filter_ok]
    split <;> simp
  refine ⟨hf, ?_⟩
  unfold endOf
  rw [h, List.any_append, any_ok]
  rcases he with rfl | rfl <;> simp
theorem fields_bytes (x : Nat × List Nat) (r : List Nat) (h : 3 + x.2.length ≤ 65535) : fieldsOf (bytesOf x ++ r) = x :: fieldsOf r ∧ endOf (bytesOf x ++ r) = endOf r := by
  refine fieldsOf_eq ?_ (elsOf_split r).2
  rw [elsOf_bytes x r h]
  conv => lhs; rw [(elsOf_split r).1]
  rfl
theorem fields_nil : fieldsOf [] = [] ∧ endOf [] = 0 := by decide
/-- the field of no data -/
theorem fields_tail : fieldsOf [0, 3, 7] = [(7, [])] ∧ endOf [0, 3, 7] = 0 := by decide
theorem fields_two (x : Nat × List Nat) (h : 3 + x.2.length ≤ 65535) : fieldsOf (bytesOf x ++ [0, 3, 7]) = [x, (7, [])] ∧ endOf (bytesOf x ++ [0, 3, 7]) = 0 := by
  obtain ⟨h1, h2⟩ := fields_bytes x [0, 3, 7] h
  rw [h1, h2, fields_tail.1, fields_tail.2]
  exact ⟨rfl, rfl⟩
/-- a field whose length is 0 takes all that is left -/
theorem elsOf_rest (id : Nat) (p : List Nat) : elsOf ([0, 0, id] ++ p) = [okEl (id, p)] := by
  have hl : ([0, 0, id] ++ p).length = 3 + p.length := by simp; omega
  have hh : hdr ([0, 0, id] ++ p) = 3 + p.length := by
    unfold hdr
    rw [if_neg (by simp), hl]
  have hb : ¬ bad ([0, 0, id] ++ p) := by unfold bad; rw [hh, hl]; omega
  rw [elsOf_good (by simp) hb, hh]
  have h1 : ([0, 0, id] ++ p).take (3 + p.length) = [0, 0, id] ++ p := List.take_of_length_le (by omega)
  have h2 : ([0, 0, id] ++ p).drop (3 + p.length) = [] := List.drop_of_length_le (by omega)
  rw [h1, h2]
  rfl
theorem fields_rest (id : Nat) (p : List Nat) : fieldsOf ([0, 0, id] ++ p) = [(id, p)] ∧ endOf ([0, 0, id] ++ p) = 0 :=
  fieldsOf_eq (e := 0) (by rw [elsOf_rest]; rfl) (.inl rfl)

/-- the example of the document -/
theorem awake_fields : actsOf (fieldsOf [0, 5, 1, 255, 2, 0, 4, 3, 128]) (endOf [0, 5, 1, 255, 2, 0, 4, 3, 128]) = ([aQuery, aErase true], 0) := by
  have h : fieldsOf [0, 5, 1, 255, 2, 0, 4, 3, 128] = [(1, [255, 2]), (3, [128])] ∧ endOf [0, 5, 1, 255, 2, 0, 4, 3, 128] = 0 := by decide
  rw [h.1, h.2]
  rfl
end Go.Proofs.Ytcibhchbgendaab.Sf
