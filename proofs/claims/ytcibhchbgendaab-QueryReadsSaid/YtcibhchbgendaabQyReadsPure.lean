/- What a terminal says is read again: the plain law of QueryReads. -/
import Derived.Test.YtcibhchbgendaabQyList
import Derived.Test.YtcibhchbgendaabSfLaw
namespace Go.Proofs.Ytcibhchbgendaab.Qy
open Go Go.RowKit Go.Proofs.Ytcibhchbgendaab.By Go.Proofs.Ytcibhchbgendaab.Sf Go.Proofs.Ytcibhchbgendaab.Pg

theorem flat_fields (m k : Nat) : ∀ l : List Nat, (∀ c ∈ l, c ∈ codes7) → fieldsOf (l.flatMap fun c => replyOf c m k) = l.map (fun c => (129, c :: saysOf c m k)) ∧ endOf (l.flatMap fun c => replyOf c m k) = 0
  | [], _ => fields_nil
  | c :: l, h => by
    obtain ⟨h1, h2⟩ := flat_fields m k l (fun d hd => h d (List.mem_cons_of_mem _ hd))
    have hl := reply_len c m k (h c (by simp))
    have e : (replyOf c m k).length = 3 + (c :: saysOf c m k).length := by
      unfold replyOf bytesOf
      simp
      omega
    obtain ⟨h3, h4⟩ := fields_bytes (129, c :: saysOf c m k) (l.flatMap fun c => replyOf c m k) (by show 3 + (c :: saysOf c m k).length ≤ 65535; omega)
    constructor
    · rw [List.flatMap_cons, List.map_cons, ← h1]
      exact h3
    · rw [List.flatMap_cons, ← h2]
      exact h4
theorem some_parse (l : List Nat) (m k : Nat) (h : ∀ c ∈ l, c ∈ codes7) : parseOf (someOf l m k) = (if l = [] then [255] else l, 0) := by
  by_cases h0 : l = []
  · subst h0
    rw [if_pos rfl]
    have e : someOf [] m k = [136, 0, 4, 129, 255] := rfl
    rw [e]
    decide
  · rw [if_neg h0]
    obtain ⟨h1, h2⟩ := flat_fields m k l h
    have e : someOf l m k = 136 :: l.flatMap fun c => replyOf c m k := if_neg h0
    have hg : (l.map (fun c => (129, c :: saysOf c m k))).all goodEl = true := by
      simp [goodEl]
    unfold parseOf
    rw [e]
    unfold repliesOf
    simp only [if_true, h1, h2, hg]
    simp [Function.comp_def]
theorem ask_mem (l : List Nat) : ∀ c ∈ askOf l, c ∈ codes7 := fun _ hc => (List.mem_filter.1 hc).1
theorem all_parse (m k : Nat) : parseOf (allOf m k) = (codes7, 0) := some_parse codes7 m k (fun _ h => h)
theorem few_iff (l : List Nat) (m k : Nat) (h : ∀ c ∈ l, c ∈ codes7) : ∃ c r, (parseOf (someOf l m k)).1 = c :: r ∧ c < 256 ∧ decide (c = 255) = decide (someOf l m k = [136, 0, 4, 129, 255]) := by
  cases l with
  | nil => exact ⟨255, [], by rw [some_parse [] m k h]; rfl, by decide, rfl⟩
  | cons c r =>
    have hp := some_parse (c :: r) m k h
    rw [if_neg (by simp)] at hp
    have hc := h c (by simp)
    have hne : c ≠ 255 := by
      intro e
      subst e
      simp [codes7] at hc
    refine ⟨c, r, by rw [hp], by simp [codes7] at hc; omega, ?_⟩
    rw [decide_eq_false hne, decide_eq_false]
    intro e
    rw [e] at hp
    have h2 : parseOf [136, 0, 4, 129, 255] = ([255], 0) := by decide
    rw [h2] at hp
    injection hp with hp _
    injection hp with hp _
    exact hne hp.symm
theorem all_find (m k : Nat) (hm : m = 2 ∨ m = 3 ∨ m = 4 ∨ m = 5) (hk : KK k) : (findOf (allOf m k) 129).map (fun d => (decide (7 ≤ d.length), at2 d 5, at2 d 3)) = some (true, rowsOf m, colsOf m) ∧ (findOf (allOf m k) 133).map (fun d => (decide (15 ≤ d.length), at2 d 13)) = some (true, k) := by
  rcases hm with rfl | rfl | rfl | rfl <;> rcases hk with rfl | rfl | rfl | rfl | rfl | rfl <;> decide +kernel
end Go.Proofs.Ytcibhchbgendaab.Qy
