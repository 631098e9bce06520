/- Acts and their fields as plain data: a field that was made asks for the act again. No program in sight. -/
import Derived.Test.YtcibhchbgendaaaDoorSfLaw
namespace Go.Proofs.YtcibhchbgendaaaDoor.Sf

/-- cut to what isn't too great -/
def fewOf (a : A) : A := ⟨a.kind, a.command, a.mode, a.alt, a.req, a.codes.take 20, a.rc.take 300⟩
theorem few_few (a : A) : fewOf (fewOf a) = fewOf a := by simp [fewOf, List.take_take]
/-- not too great -/
def Small (a : A) : Prop := a.req < 256 ∧ a.codes.length ≤ 20 ∧ a.rc.length ≤ 300
theorem few_small (a : A) (h : a.req < 256) : Small (fewOf a) := ⟨h, by simp [fewOf]; omega, by simp [fewOf]; omega⟩

theorem sameA_false {a b : A} (h : a ≠ b) : sameA a b = false := by
  cases e : sameA a b
  · rfl
  · exact absurd ((sameA_iff a b).1 e) h
theorem sameA_dec (a b : A) : sameA a b = decide (a.kind = b.kind ∧ a.command = b.command ∧ a.mode = b.mode ∧ a.alt = b.alt ∧ a.req = b.req ∧ a.codes = b.codes ∧ a.rc = b.rc) := by
  rw [Bool.eq_iff_iff, sameA_iff, decide_eq_true_iff]
  cases a; cases b
  simp

theorem read_all : (List.range 9).all (fun n => !((readsOf [0, byteOf (n : Int)]).2 == 0) || sameA (readsOf [0, byteOf (n : Int)]).1 (aRead n)) = true := by decide +kernel
theorem read_cmd (n : Nat) (hn : n < 9) (h : (readsOf [0, byteOf (n : Int)]).2 = 0) : (readsOf [0, byteOf (n : Int)]).1 = aRead n := by
  have h1 := List.all_eq_true.1 read_all n (by simp [hn])
  rw [h] at h1
  exact (sameA_iff _ _).1 (by simpa using h1)

/-- what the field of an act asks for: that act, or it isn't said -/
theorem make_told (a : A) (hk : isKind a.kind) (h : (actOf (idOf a) (dataOf a)).2 = 0) :
    (actOf (idOf a) (dataOf a)).1.kind = a.kind ∧ toldOf a (actOf (idOf a) (dataOf a)).1 = sameA (actOf (idOf a) (dataOf a)).1 (plainOf a) := by
  obtain ⟨k, c, m, b, q, cs, rc⟩ := a
  have hk2 : k = 1 ∨ k = 2 ∨ k = 3 ∨ k = 4 ∨ k = 5 ∨ k = 6 ∨ k = 7 ∨ k = 8 ∨ k = 9 := by
    have : 1 ≤ k ∧ k ≤ 9 := hk
    omega
  clear hk
  rcases hk2 with rfl | rfl | rfl | rfl | rfl | rfl | rfl | rfl | rfl
  · exact ⟨rfl, rfl⟩
  · have e : actOf (idOf ⟨2, c, m, b, q, cs, rc⟩) (dataOf ⟨2, c, m, b, q, cs, rc⟩) = (if reqOk q then (aList q cs, 0) else (A0, 4)) := by
      show readsOf (255 :: 3 :: q :: cs) = _
      unfold readsOf
      rw [if_neg (by simp), if_neg (by simp), if_pos (by simp), if_pos (by simp)]
      simp [partOf]
    rw [e] at h ⊢
    by_cases hq : reqOk q
    · rw [if_pos hq]
      exact ⟨rfl, by simp [toldOf, aList, sameA, plainOf]⟩
    · rw [if_neg hq] at h
      exact absurd h (by decide)
  · by_cases hc : 0 ≤ c ∧ c ≤ 8
    · obtain ⟨n, rfl⟩ : ∃ n : Nat, c = n := ⟨c.toNat, by omega⟩
      have e := read_cmd n (by omega) h
      have e1 : (actOf (idOf ⟨3, n, m, b, q, cs, rc⟩) (dataOf ⟨3, n, m, b, q, cs, rc⟩)).1 = aRead n := e
      rw [e1]
      refine ⟨rfl, ?_⟩
      show decide ((n : Int) = n) = sameA (aRead n) (aRead n)
      rw [sameA_refl]
      simp
    · have e : byteOf c = 0 := by
        unfold byteOf
        by_cases h0 : c < 0
        · rw [if_pos h0]
        · rw [if_neg h0, if_pos (by omega)]
      have e2 : actOf (idOf ⟨3, c, m, b, q, cs, rc⟩) (dataOf ⟨3, c, m, b, q, cs, rc⟩) = (A0, 4) := by
        show readsOf [0, byteOf c] = _
        rw [e]
        rfl
      rw [e2] at h
      exact absurd h (by decide)
  · cases b <;> exact ⟨rfl, rfl⟩
  · obtain ⟨y, hy⟩ : ∃ y : Nat, y = (m % 256).toNat := ⟨_, rfl⟩
    have e : actOf (idOf ⟨5, c, m, b, q, cs, rc⟩) (dataOf ⟨5, c, m, b, q, cs, rc⟩) = (if 2 < y then (A0, 4) else (aMode (y : Int), 0)) := by
      show setsOf [0, (m % 256).toNat] = _
      rw [← hy]
      unfold setsOf
      simp [partOf]
    rw [e] at h ⊢
    by_cases h2 : 2 < y
    · rw [if_pos h2] at h
      exact absurd h (by decide)
    · rw [if_neg h2]
      refine ⟨rfl, ?_⟩
      show decide (m = (y : Int)) = sameA (aMode (y : Int)) (aMode m)
      rw [Bool.eq_iff_iff, sameA_iff, decide_eq_true_iff]
      constructor
      · intro h; rw [h]
      · intro h
        have := congrArg A.mode h
        exact this.symm
  · exact ⟨rfl, rfl⟩
  · exact ⟨rfl, rfl⟩
  · exact ⟨rfl, rfl⟩
  · have e : actOf (idOf ⟨9, c, m, b, q, cs, rc⟩) (dataOf ⟨9, c, m, b, q, cs, rc⟩) = outsOf (0 :: rc) := rfl
    rw [e] at h ⊢
    unfold outsOf at h ⊢
    by_cases h1 : (0 :: rc).length < 2
    · rw [if_pos h1] at h
      exact absurd h (by decide)
    · rw [if_neg h1] at h ⊢
      by_cases h2 : 0 ≤ cmdOf ((0 :: rc).getD 1 0) ∧ cmdOf ((0 :: rc).getD 1 0) ≤ 4
      · rw [if_pos h2]
        refine ⟨rfl, ?_⟩
        show decide (rc = rc) = sameA (aOut rc) (aOut rc)
        rw [sameA_refl]
        simp
      · rw [if_neg h2] at h
        exact absurd h (by decide)

/-- when there is one, it is there -/
theorem make_ok {a : A} (h : (makeOf a).2 = 0) : isKind a.kind ∧ (makeOf a).1 = (idOf a, dataOf a) ∧ actOf (idOf a) (dataOf a) = (plainOf a, 0) := by
  unfold makeOf at h ⊢
  by_cases hk : isKind a.kind
  · rw [if_pos hk] at h ⊢
    by_cases h2 : (actOf (idOf a) (dataOf a)).2 = 0 ∧ sameA (actOf (idOf a) (dataOf a)).1 (plainOf a) = true
    · rw [if_pos h2]
      refine ⟨hk, rfl, ?_⟩
      have := (sameA_iff _ _).1 h2.2
      rw [← this, ← h2.1]
    · rw [if_neg h2] at h
      exact absurd h (by decide)
  · rw [if_neg hk] at h
    exact absurd h (by decide)
theorem make_act {a : A} (h : (makeOf a).2 = 0) : actOf (makeOf a).1.1 (makeOf a).1.2 = (plainOf a, 0) := by
  obtain ⟨_, h1, h2⟩ := make_ok h
  rw [h1]
  exact h2
theorem data_len (a : A) (h : Small a) : (dataOf a).length ≤ 301 := by
  obtain ⟨_, h1, h2⟩ := h
  unfold dataOf
  split
  · simp
  · split
    · simp; omega
    · split
      · simp
      · split
        · split <;> simp
        · split
          · simp
          · split
            · simp; omega
            · simp
theorem make_len (a : A) (h : Small a) : (makeOf a).1.2.length ≤ 301 := by
  have := data_len a h
  unfold makeOf
  split
  · split
    · exact this
    · simp
  · simp
theorem id_lt (a : A) : idOf a < 256 := by
  unfold idOf
  repeat' split
  all_goals decide
theorem make_id (a : A) : (makeOf a).1.1 < 256 := by
  have := id_lt a
  unfold makeOf
  split
  · split
    · exact this
    · decide
  · decide

/-- a record's fields -/
theorem rec_fields : ∀ (l : List A), (∀ a ∈ l, Small a) → (recOf l).2 = 0 → ∀ r : List Nat, fieldsOf ((recOf l).1 ++ r) = l.map (fun a => (makeOf a).1) ++ fieldsOf r ∧ endOf ((recOf l).1 ++ r) = endOf r
  | [], _, _, r => ⟨rfl, rfl⟩
  | a :: l, hs, h, r => by
    unfold recOf at h ⊢
    by_cases h1 : (makeOf a).2 = 0
    · rw [if_pos h1] at h ⊢
      by_cases h2 : (recOf l).2 = 0
      · rw [if_pos h2]
        obtain ⟨i1, i2⟩ := rec_fields l (fun x hx => hs x (List.mem_cons_of_mem _ hx)) h2 r
        have hl := make_len a (hs a (by simp))
        obtain ⟨j1, j2⟩ := fields_bytes (makeOf a).1 ((recOf l).1 ++ r) (by omega)
        show fieldsOf ((bytesOf (makeOf a).1 ++ (recOf l).1) ++ r) = _ ∧ endOf ((bytesOf (makeOf a).1 ++ (recOf l).1) ++ r) = _
        rw [List.append_assoc, j1, j2, i1, i2]
        exact ⟨rfl, rfl⟩
      · rw [if_neg h2] at h
        exact absurd h h2
    · rw [if_neg h1] at h
      exact absurd h h1
theorem rec_make : ∀ (l : List A), (recOf l).2 = 0 → ∀ a ∈ l, (makeOf a).2 = 0
  | [], _, a, h => by simp at h
  | x :: l, h, a, ha => by
    unfold recOf at h
    by_cases h1 : (makeOf x).2 = 0
    · rw [if_pos h1] at h
      by_cases h2 : (recOf l).2 = 0
      · rcases List.mem_cons.1 ha with rfl | ha
        · exact h1
        · exact rec_make l h2 a ha
      · rw [if_neg h2] at h
        exact absurd h h2
    · rw [if_neg h1] at h
      exact absurd h h1
theorem acts_make : ∀ (l : List A), (∀ a ∈ l, (makeOf a).2 = 0) → actsOf (l.map fun a => (makeOf a).1) 0 = (l.map plainOf, 0)
  | [], _ => rfl
  | a :: l, h => by
    show actsOf ((makeOf a).1 :: l.map fun a => (makeOf a).1) 0 = _
    unfold actsOf
    rw [make_act (h a (by simp)), acts_make l (fun x hx => h x (List.mem_cons_of_mem _ hx))]
    simp
/-- a record asks for its acts again -/
theorem rec_acts (l : List A) (hs : ∀ a ∈ l, Small a) (h : (recOf l).2 = 0) : actsOf (fieldsOf (recOf l).1) (endOf (recOf l).1) = (l.map plainOf, 0) := by
  obtain ⟨h1, h2⟩ := rec_fields l hs h []
  rw [List.append_nil, fields_nil.1, List.append_nil] at h1
  rw [List.append_nil, fields_nil.2] at h2
  rw [h1, h2]
  exact acts_make l (rec_make l h)
theorem bytes_len (x : Nat × List Nat) : (bytesOf x).length = 3 + x.2.length := by simp [bytesOf]; omega
theorem rec_len : ∀ (l : List A), (∀ a ∈ l, Small a) → (recOf l).1.length ≤ 304 * l.length
  | [], _ => by simp [recOf]
  | a :: l, hs => by
    have h1 := rec_len l (fun x hx => hs x (List.mem_cons_of_mem _ hx))
    have h2 := make_len a (hs a (by simp))
    unfold recOf
    split
    · split
      · simp [bytes_len]
        omega
      · simp
    · simp
/-- a record, one act longer -/
theorem rec_snoc_ok : ∀ (l : List A) (a : A), (recOf l).2 = 0 → (makeOf a).2 = 0 → recOf (l ++ [a]) = ((recOf l).1 ++ bytesOf (makeOf a).1, 0)
  | [], a, _, h => by simp [recOf, h]
  | x :: l, a, hl, h => by
    have hx := rec_make _ hl x (by simp)
    have hl2 : (recOf l).2 = 0 := by
      unfold recOf at hl
      rw [if_pos hx] at hl
      by_cases h2 : (recOf l).2 = 0
      · exact h2
      · rw [if_neg h2] at hl
        exact absurd hl h2
    show recOf (x :: (l ++ [a])) = _
    unfold recOf
    rw [rec_snoc_ok l a hl2 h, if_pos hx, if_pos hx, if_pos hl2]
    simp
theorem rec_snoc_err : ∀ (l : List A) (a : A) (r : List A), (recOf l).2 = 0 → (makeOf a).2 ≠ 0 → recOf (l ++ a :: r) = ([], (makeOf a).2)
  | [], a, r, _, h => by simp [recOf, h]
  | x :: l, a, r, hl, h => by
    have hx := rec_make _ hl x (by simp)
    have hl2 : (recOf l).2 = 0 := by
      unfold recOf at hl
      rw [if_pos hx] at hl
      by_cases h2 : (recOf l).2 = 0
      · exact h2
      · rw [if_neg h2] at hl
        exact absurd hl h2
    show recOf (x :: (l ++ a :: r)) = _
    unfold recOf
    rw [rec_snoc_err l a r hl2 h, if_pos hx]
    simp [h]
theorem byteOf_bytes (x : Nat × List Nat) (h : x.1 < 256) (h2 : ∀ n ∈ x.2, n < 256) : ∀ n ∈ bytesOf x, n < 256 := by
  intro n hn
  simp only [bytesOf, List.mem_append, List.mem_cons, List.not_mem_nil, or_false] at hn
  rcases hn with (rfl | rfl | rfl) | hn
  · omega
  · omega
  · exact h
  · exact h2 n hn
/-- the field that takes all that is left -/
theorem rest_same (id : Nat) (p : List Nat) (h : 3 + p.length ≤ 65535) : fieldsOf (bytesOf (id, p)) = [(id, p)] ∧ endOf (bytesOf (id, p)) = 0 := by
  obtain ⟨h1, h2⟩ := fields_bytes (id, p) [] h
  rw [List.append_nil, fields_nil.1] at h1
  rw [List.append_nil, fields_nil.2] at h2
  exact ⟨h1, h2⟩
end Go.Proofs.YtcibhchbgendaaaDoor.Sf
