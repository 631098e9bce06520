/- Structured fields as lists: no program in sight. -/
namespace Go.Proofs.Ytcibhchbgendaab.Sf

/-- how long a field says it is -/
def hdr (l : List Nat) : Nat := if 3 ≤ l.length ∧ (l.getD 0 0 ≠ 0 ∨ l.getD 1 0 ≠ 0) then 256 * l.getD 0 0 + l.getD 1 0 else l.length
def bad (l : List Nat) : Prop := hdr l < 3 ∨ l.length < hdr l
instance (l : List Nat) : Decidable (bad l) := by unfold bad; exact inferInstance
/-- what is told of bytes, one by one: identifier, data, error (2: it isn't there) -/
def els : Nat → List Nat → List (Nat × List Nat × Int)
  | 0, _ => []
  | f + 1, l => if l = [] then [] else if bad l then [(0, [], 2)] else (l.getD 2 0, (l.take (hdr l)).drop 3, 0) :: els f (l.drop (hdr l))
def elsOf (l : List Nat) : List (Nat × List Nat × Int) := els l.length l
/-- the fields up to where one isn't there; and that error -/
def fieldsOf (l : List Nat) : List (Nat × List Nat) := ((elsOf l).filter fun x => x.2.2 == 0).map fun x => (x.1, x.2.1)
def endOf (l : List Nat) : Int := if (elsOf l).any fun x => x.2.2 != 0 then 2 else 0

theorem els_nil (f : Nat) : els f [] = [] := by
  cases f <;> simp [els]
theorem els_more : ∀ (f g : Nat) (l : List Nat), l.length ≤ f → l.length ≤ g → els f l = els g l
  | 0, g, l, hf, _ => by
    have : l = [] := List.length_eq_zero_iff.1 (by omega)
    subst this
    rw [els_nil, els_nil]
  | f + 1, 0, l, _, hg => by
    have : l = [] := List.length_eq_zero_iff.1 (by omega)
    subst this
    rw [els_nil, els_nil]
  | f + 1, g + 1, l, hf, hg => by
    unfold els
    by_cases h : l = []
    · simp [h]
    · rw [if_neg h, if_neg h]
      by_cases hb : bad l
      · rw [if_pos hb, if_pos hb]
      · rw [if_neg hb, if_neg hb]
        have h3 : 3 ≤ hdr l := by unfold bad at hb; omega
        have hl : 0 < l.length := List.length_pos_iff.2 h
        rw [els_more f g (l.drop (hdr l)) (by rw [List.length_drop]; omega) (by rw [List.length_drop]; omega)]
theorem elsOf_nil : elsOf [] = [] := rfl
theorem elsOf_bad {l : List Nat} (h : l ≠ []) (hb : bad l) : elsOf l = [(0, [], 2)] := by
  unfold elsOf
  obtain ⟨n, hn⟩ : ∃ n, l.length = n + 1 := ⟨l.length - 1, by have := List.length_pos_iff.2 h; omega⟩
  rw [hn, els, if_neg h, if_pos hb]
theorem elsOf_good {l : List Nat} (h : l ≠ []) (hb : ¬ bad l) : elsOf l = (l.getD 2 0, (l.take (hdr l)).drop 3, 0) :: elsOf (l.drop (hdr l)) := by
  have hl : 0 < l.length := List.length_pos_iff.2 h
  obtain ⟨n, hn⟩ : ∃ n, l.length = n + 1 := ⟨l.length - 1, by omega⟩
  have h3 : 3 ≤ hdr l := by unfold bad at hb; omega
  conv => lhs; unfold elsOf
  rw [hn, els, if_neg h, if_neg hb]
  rw [els_more n (l.drop (hdr l)).length _ (by rw [List.length_drop]; omega) (Nat.le_refl _)]
  rfl

/-- a field that is there -/
def okEl (f : Nat × List Nat) : Nat × List Nat × Int := (f.1, f.2, 0)
theorem els_form : ∀ (f : Nat) (l : List Nat), ∃ (fs : List (Nat × List Nat)) (tl : List (Nat × List Nat × Int)), els f l = fs.map okEl ++ tl ∧ (tl = [] ∨ tl = [(0, [], 2)])
  | 0, _ => ⟨[], [], rfl, .inl rfl⟩
  | f + 1, l => by
    unfold els
    by_cases h : l = []
    · exact ⟨[], [], by simp [h], .inl rfl⟩
    · by_cases hb : bad l
      · exact ⟨[], [(0, [], 2)], by simp [h, hb], .inr rfl⟩
      · obtain ⟨fs, tl, h1, h2⟩ := els_form f (l.drop (hdr l))
        exact ⟨(l.getD 2 0, (l.take (hdr l)).drop 3) :: fs, tl, by simp only [if_neg h, if_neg hb, h1]; rfl, h2⟩
theorem filter_ok (fs : List (Nat × List Nat)) : ((fs.map okEl).filter fun x => x.2.2 == 0).map (fun x => (x.1, x.2.1)) = fs := by
  induction fs with
  | nil => rfl
  | cons a l ih => simpa [okEl] using ih
theorem any_ok (fs : List (Nat × List Nat)) : (fs.map okEl).any (fun x => x.2.2 != 0) = false := by
  induction fs with
  | nil => rfl
  | cons a l ih => simp [okEl]
/-- what is told: the fields, and behind them the error, if there is one -/
theorem elsOf_split (l : List Nat) : elsOf l = (fieldsOf l).map okEl ++ (if endOf l = 0 then [] else [(0, [], 2)]) ∧ (endOf l = 0 ∨ endOf l = 2) := by
  obtain ⟨fs, tl, h, ht⟩ := els_form l.length l
  change elsOf l = _ at h
  have hf : fieldsOf l = fs := by
    unfold fieldsOf
    rw [h, List.filter_append, List.map_append, filter_ok]
    rcases ht with rfl | rfl <;> simp
  rcases ht with rfl | rfl
  · have he : endOf l = 0 := by
      unfold endOf
      rw [h, List.any_append, any_ok]
      rfl
    exact ⟨by rw [hf, he, h]; rfl, .inl he⟩
  · have he : endOf l = 2 := by
      unfold endOf
      rw [h, List.any_append, any_ok]
      rfl
    exact ⟨by rw [hf, he, h]; rfl, .inr he⟩
/-- all have come, none an error -/
theorem told_all {l : List Nat} {fs : List (Nat × List Nat)} (h : fs.map okEl = elsOf l) : fieldsOf l = fs ∧ endOf l = 0 := by
  have hf : fieldsOf l = fs := by unfold fieldsOf; rw [← h, filter_ok]
  refine ⟨hf, ?_⟩
  unfold endOf
  rw [← h, any_ok]
  rfl
theorem okEl_inj : ∀ {a b : List (Nat × List Nat)}, a.map okEl = b.map okEl → a = b
  | [], [], _ => rfl
  | [], _ :: _, h => by simp at h
  | _ :: _, [], h => by simp at h
  | (x, y) :: a, (u, v) :: b, h => by
    simp only [List.map_cons, List.cons.injEq, okEl, Prod.mk.injEq, and_true] at h
    obtain ⟨⟨rfl, rfl⟩, h⟩ := h
    rw [okEl_inj h]
/-- some have come, none an error -/
theorem told_some {l : List Nat} {fs : List (Nat × List Nat)} (h : fs.map okEl <+: elsOf l) : fs = (fieldsOf l).take fs.length ∧ fs.length ≤ (fieldsOf l).length := by
  rw [(elsOf_split l).1] at h
  obtain ⟨t, h⟩ := h
  by_cases hl : fs.length ≤ (fieldsOf l).length
  · refine ⟨?_, hl⟩
    have h2 := congrArg (List.take fs.length) h
    rw [List.take_append_of_le_length (by simp), List.take_append_of_le_length (by simpa using hl)] at h2
    rw [List.take_of_length_le (by simp), ← List.map_take] at h2
    exact okEl_inj h2
  · exfalso
    have h2 := congrArg (fun x : List (Nat × List Nat × Int) => x[(fieldsOf l).length]?) h
    rw [List.getElem?_append_left (by simp; omega), List.getElem?_append_right (by simp)] at h2
    simp only [List.length_map, Nat.sub_self] at h2
    rw [List.getElem?_map, List.getElem?_eq_getElem (by omega)] at h2
    split at h2
    · simp at h2
    · simp [okEl] at h2
/-- the error has come -/
theorem told_err {l : List Nat} {fs : List (Nat × List Nat)} {x : Nat × List Nat × Int} (hx : x.2.2 ≠ 0) (h : (fs.map okEl ++ [x]) <+: elsOf l) : fieldsOf l = fs ∧ endOf l = 2 ∧ x = (0, [], 2) := by
  have h1 := told_some (List.IsPrefix.trans (List.prefix_append _ _) h)
  obtain ⟨t, ht⟩ := h
  rw [(elsOf_split l).1] at ht
  have h2 := congrArg (fun y : List (Nat × List Nat × Int) => y[fs.length]?) ht
  rw [List.append_assoc, List.getElem?_append_right (by simp)] at h2
  simp only [List.length_map, Nat.sub_self, List.singleton_append, List.getElem?_cons_zero] at h2
  by_cases hl : fs.length < (fieldsOf l).length
  · rw [List.getElem?_append_left (by simpa using hl), List.getElem?_map, List.getElem?_eq_getElem hl] at h2
    simp at h2
    rw [h2] at hx
    exact absurd rfl hx
  · have hl2 : fs.length = (fieldsOf l).length := by omega
    rw [hl2, List.getElem?_append_right (by simp)] at h2
    simp only [List.length_map, Nat.sub_self] at h2
    split at h2
    · simp at h2
    · rename_i he
      simp at h2
      refine ⟨?_, ?_, h2⟩
      · rw [h1.1, hl2, List.take_length]
      · rcases (elsOf_split l).2 with h | h
        · exact absurd h he
        · exact h
theorem fields_len : ∀ (f : Nat) (l : List Nat), 3 * (((els f l).filter fun x => x.2.2 == 0).map fun x => (x.1, x.2.1)).length ≤ l.length
  | 0, _ => by simp [els]
  | f + 1, l => by
    unfold els
    by_cases h : l = []
    · simp [h]
    · by_cases hb : bad l
      · simp [h, hb]
      · have h1 := fields_len f (l.drop (hdr l))
        have h3 : 3 ≤ hdr l ∧ hdr l ≤ l.length := by unfold bad at hb; omega
        rw [List.length_drop] at h1
        simp only [if_neg h, if_neg hb]
        simp only [List.length_map] at h1 ⊢
        simp
        omega
theorem fieldsOf_len (l : List Nat) : 3 * (fieldsOf l).length ≤ l.length := fields_len l.length l
end Go.Proofs.Ytcibhchbgendaab.Sf
