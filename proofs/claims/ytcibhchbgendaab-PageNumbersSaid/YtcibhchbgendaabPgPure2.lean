/- More of the plain tables: codes of signs, great letters, graphic escapes: no program in sight. -/
import Derived.Test.YtcibhchbgendaabPgPure
namespace Go.Proofs.Ytcibhchbgendaab.Pg

theorem codeTo_none (k s : Int) : ∀ n, codeTo k s n = none ↔ ∀ q, q < n → signOf k q ≠ s
  | 0 => by simp [codeTo]
  | n + 1 => by
    unfold codeTo
    by_cases e : signOf k n = s
    · rw [if_pos e]
      simp only [reduceCtorEq, false_iff]
      intro h
      exact h n (by omega) e
    · rw [if_neg e, codeTo_none k s n]
      constructor
      · intro h q hq
        by_cases hn : q = n
        · subst hn; exact e
        · exact h q (by omega)
      · intro h q hq
        exact h q (by omega)
theorem codeTo_some {k s : Int} : ∀ {n c}, codeTo k s n = some c → c < n ∧ signOf k c = s
  | 0, c, h => by simp [codeTo] at h
  | n + 1, c, h => by
    unfold codeTo at h
    by_cases e : signOf k n = s
    · rw [if_pos e] at h
      injection h with h
      subst h
      exact ⟨by omega, e⟩
    · rw [if_neg e] at h
      have := codeTo_some h
      exact ⟨by omega, this.2⟩

def nums : List Int := [37, 273, 297, 500, 1047, 1140]
theorem isnum_nums {k : Int} (h : IsNum k) : k ∈ nums := by
  rcases h with rfl | rfl | rfl | rfl | rfl | rfl <;> simp [nums]
def apart : List Int → Bool
  | [] => true
  | x :: r => !r.contains x && apart r
theorem apart_nodup : ∀ l : List Int, apart l = true → l.Nodup
  | [], _ => List.nodup_nil
  | x :: r, h => by
    simp only [apart, Bool.and_eq_true, Bool.not_eq_true', List.contains_eq_mem, decide_eq_false_iff_not] at h
    exact List.nodup_cons.2 ⟨h.1, apart_nodup r h.2⟩
theorem signs_apart : nums.all (fun k => apart (signs k)) = true := by decide +kernel
theorem signOf_inj {k : Int} (hk : IsNum k) {a b : Nat} (ha : a < 256) (hb : b < 256) (h : signOf k a = signOf k b) : a = b := by
  have hn := apart_nodup _ (List.all_eq_true.1 signs_apart k (isnum_nums hk))
  have hl := signs_len k
  unfold signOf at h
  rw [List.getD_eq_getElem?_getD, List.getD_eq_getElem?_getD, List.getElem?_eq_getElem (by omega), List.getElem?_eq_getElem (by omega)] at h
  exact (List.getElem_inj hn).1 h
/-- a sign's code, found from the front -/
theorem codeOf_first {k s : Int} (hk : IsNum k) {c : Nat} (hc : c < 256) (h : signOf k c = s) : codeOf k s = some c := by
  unfold codeOf
  cases e : codeTo k s 256 with
  | none => exact absurd h ((codeTo_none k s 256).1 e c hc)
  | some d =>
    obtain ⟨hd, h2⟩ := codeTo_some e
    rw [signOf_inj hk hd hc (h2.trans h.symm)]
theorem codeOf_none {k s : Int} (h : ∀ q, q < 256 → signOf k q ≠ s) : codeOf k s = none := (codeTo_none k s 256).2 h
theorem codeOf_some {k s : Int} {c : Nat} (h : codeOf k s = some c) : c < 256 ∧ signOf k c = s := codeTo_some h
theorem codeOf_lt (k s : Int) : (codeOf k s).getD 0 < 256 := by
  cases h : codeOf k s with
  | none => simp
  | some c => exact (codeOf_some h).1
/-- as a number, -1 for none -/
def codeNum (k s : Int) : Int := match codeOf k s with | some c => (c : Int) | none => -1

/-- does it stand for a small letter -/
def smallB (s : Int) : Bool := (decide (97 ≤ s) && decide (s ≤ 122)) || (decide (224 ≤ s) && decide (s ≤ 254) && (s != 247))
def upperOf (k : Int) (c : Nat) : Nat := if smallB (signOf k c) then (match codeOf k (signOf k c - 32) with | some d => d | none => c) else c
theorem upper_lt (k : Int) {c : Nat} (h : c < 256) : upperOf k c < 256 := by
  unfold upperOf
  split
  · split
    · rename_i d hd; exact (codeOf_some hd).1
    · exact h
  · exact h
theorem upper_idem : nums.all (fun k => (List.range 256).all (fun c => upperOf k (upperOf k c) == upperOf k c)) = true := by decide +kernel
theorem upper_upper {k : Int} (hk : IsNum k) {c : Nat} (h : c < 256) : upperOf k (upperOf k c) = upperOf k c := by
  have := List.all_eq_true.1 (List.all_eq_true.1 upper_idem k (isnum_nums hk)) c (List.mem_range.2 h)
  simpa using this

def escL : List (Int × Int) := [(0x70, 0x2227), (0x85, 0x2502), (0x8a, 0x2191), (0x8b, 0x2193), (0x8c, 0x2264), (0x8f, 0x2192), (0x9f, 0x2190), (0xa2, 0x2500), (0xae, 0x2265), (0xbe, 0x2260), (0xc4, 0x2514), (0xc5, 0x250c), (0xc6, 0x251c), (0xc7, 0x2534), (0xd3, 0x253c), (0xd4, 0x2518), (0xd5, 0x2510), (0xd6, 0x2524), (0xd7, 0x252c)]
theorem escL_len : escL.length = 19 := rfl
theorem escL_range : ∀ p ∈ escL, 0 ≤ p.1 ∧ p.1 < 256 ∧ 0 < p.2 ∧ p.2 < 65536 := by decide +kernel
def escOf (c : Nat) : Option Int := (escL.find? (fun p => p.1 == (c : Int))).map (·.2)
def escSign (c : Nat) : Int := (escOf c).getD 0
def escCode (s : Int) : Option Int := (escL.find? (fun p => p.2 == s)).map (·.1)
/-- a sign's escape, sought among all codes -/
def escNum (s : Int) : Int := match (List.range 256).find? (fun c => escSign c != 0 && escSign c == s) with | some c => (c : Int) | none => -1
theorem esc_table : ((List.range 256).map (fun c : Nat => ((c : Int), escSign c))).filter (fun p => p.2 != 0) = escL := by decide +kernel
theorem escNum_eq (s : Int) : escNum s = match escCode s with | some c => c | none => -1 := by
  unfold escNum escCode
  rw [← esc_table, List.find?_filter, List.find?_map]
  have e : ∀ l : List Nat, l.find? (fun c => escSign c != 0 && escSign c == s) = l.find? (fun x => decide ((escSign x != 0) = true ∧ (escSign x == s) = true)) := fun l => by
    congr 1
    funext x
    cases h1 : (escSign x != 0) <;> cases h2 : (escSign x == s) <;> simp [h1, h2]
  simp only [Function.comp_def, ← e]
  cases (List.range 256).find? (fun c => escSign c != 0 && escSign c == s) <;> rfl
theorem esc_ne (c : Nat) (s : Int) (h : escOf c = some s) : s ≠ 0 := by
  unfold escOf at h
  cases e : escL.find? (fun p => p.1 == (c : Int)) with
  | none => simp [e] at h
  | some p =>
    simp [e] at h
    have := escL_range p (List.mem_of_find?_eq_some e)
    omega
end Go.Proofs.Ytcibhchbgendaab.Pg
