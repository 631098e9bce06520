/- The plain tables of the code pages, and what is known of them: no program in sight. -/
import Derived.KernelRfl
namespace Go.Proofs.Ytcibhchbgendaab.Pg

/-- page 37 -/
def base37 : List Int := [0, 1, 2, 3, 156, 9, 134, 127, 151, 141, 142, 11, 12, 13, 14, 15, 16, 17, 18, 19, 157, 133, 8, 135, 24, 25, 146, 143, 28, 29, 30, 31, 128, 129, 130, 131, 132, 10, 23, 27, 136, 137, 138, 139, 140, 5, 6, 7, 144, 145, 22, 147, 148, 149, 150, 4, 152, 153, 154, 155, 20, 21, 158, 26, 32, 160, 226, 228, 224, 225, 227, 229, 231, 241, 162, 46, 60, 40, 43, 124, 38, 233, 234, 235, 232, 237, 238, 239, 236, 223, 33, 36, 42, 41, 59, 172, 45, 47, 194, 196, 192, 193, 195, 197, 199, 209, 166, 44, 37, 95, 62, 63, 248, 201, 202, 203, 200, 205, 206, 207, 204, 96, 58, 35, 64, 39, 61, 34, 216, 97, 98, 99, 100, 101, 102, 103, 104, 105, 171, 187, 240, 253, 254, 177, 176, 106, 107, 108, 109, 110, 111, 112, 113, 114, 170, 186, 230, 184, 198, 164, 181, 126, 115, 116, 117, 118, 119, 120, 121, 122, 161, 191, 208, 221, 222, 174, 94, 163, 165, 183, 169, 167, 182, 188, 189, 190, 91, 93, 175, 168, 180, 215, 123, 65, 66, 67, 68, 69, 70, 71, 72, 73, 173, 244, 246, 242, 243, 245, 125, 74, 75, 76, 77, 78, 79, 80, 81, 82, 185, 251, 252, 249, 250, 255, 92, 247, 83, 84, 85, 86, 87, 88, 89, 90, 178, 212, 214, 210, 211, 213, 48, 49, 50, 51, 52, 53, 54, 55, 56, 57, 179, 219, 220, 217, 218, 159]
theorem base37_len : base37.length = 256 := by decide +kernel
def oth273 : List (Int × Int) := [(0x43, 0x007b), (0x4a, 0x00c4), (0x4f, 0x0021), (0x59, 0x007e), (0x5a, 0x00dc), (0x5f, 0x005e), (0x63, 0x005b), (0x6a, 0x00f6), (0x7c, 0x00a7), (0xa1, 0x00df), (0xb0, 0x00a2), (0xb5, 0x0040), (0xba, 0x00ac), (0xbb, 0x007c), (0xc0, 0x00e4), (0xcc, 0x00a6), (0xd0, 0x00fc), (0xdc, 0x007d), (0xe0, 0x00d6), (0xec, 0x005c), (0xfc, 0x005d)]
def oth297 : List (Int × Int) := [(0x44, 0x0040), (0x48, 0x005c), (0x4a, 0x00b0), (0x4f, 0x0021), (0x51, 0x007b), (0x54, 0x007d), (0x5a, 0x00a7), (0x5f, 0x005e), (0x6a, 0x00f9), (0x79, 0x00b5), (0x7b, 0x00a3), (0x7c, 0x00e0), (0x90, 0x005b), (0xa0, 0x0060), (0xa1, 0x00a8), (0xb0, 0x00a2), (0xb1, 0x0023), (0xb5, 0x005d), (0xba, 0x00ac), (0xbb, 0x007c), (0xbd, 0x007e), (0xc0, 0x00e9), (0xd0, 0x00e8), (0xdd, 0x00a6), (0xe0, 0x00e7)]
def oth500 : List (Int × Int) := [(0x4a, 0x005b), (0x4f, 0x0021), (0x5a, 0x005d), (0x5f, 0x005e), (0xb0, 0x00a2), (0xba, 0x00ac), (0xbb, 0x007c)]
def oth1047 : List (Int × Int) := [(0x5f, 0x005e), (0xad, 0x005b), (0xb0, 0x00ac), (0xba, 0x00dd), (0xbb, 0x00a8), (0xbd, 0x005d)]
def oth1140 : List (Int × Int) := [(0x9f, 0x20ac)]

/-- the numbers of pages -/
def IsNum (k : Int) : Prop := k = 37 ∨ k = 273 ∨ k = 297 ∨ k = 500 ∨ k = 1047 ∨ k = 1140
instance (k : Int) : Decidable (IsNum k) := by unfold IsNum; infer_instance
def othL (k : Int) : List (Int × Int) := if k = 273 then oth273 else if k = 297 then oth297 else if k = 500 then oth500 else if k = 1047 then oth1047 else if k = 1140 then oth1140 else []

def rowL (d : Nat) : List Int := (base37.drop (16 * d)).take 16
/-- the signs, when n of page 37's stand -/
def prog (n : Nat) : List Int := base37.take n ++ List.replicate (256 - n) 0
theorem prog_len (n : Nat) (h : n ≤ 256) : (prog n).length = 256 := by simp [prog, base37_len]; omega
theorem prog_zero : prog 0 = List.replicate 256 0 := rfl
theorem prog_all : prog 256 = base37 := by
  unfold prog
  rw [List.take_of_length_le (by rw [base37_len]; omega)]
  simp
theorem prog_get (n : Nat) (h : n ≤ 256) (i : Nat) : (prog n)[i]? = if i < n then base37[i]? else if i < 256 then some 0 else none := by
  have hl := base37_len
  unfold prog
  have hm : min n base37.length = n := by omega
  simp only [List.getElem?_append, List.length_take, hm, List.getElem?_take, List.getElem?_replicate]
  by_cases h1 : i < n
  · simp [h1]
  · rw [if_neg h1, if_neg h1]
    by_cases h2 : i < 256
    · rw [if_pos (by omega), if_pos h2]
    · rw [if_neg (by omega), if_neg h2]
theorem prog_step (n : Nat) (h : n < 256) : (prog n).set n (base37.getD n 0) = prog (n + 1) := by
  have hl := base37_len
  apply List.ext_getElem?
  intro i
  rw [List.getElem?_set, prog_get n (by omega), prog_get (n + 1) (by omega), prog_len n (by omega)]
  by_cases e : n = i
  · subst e
    rw [if_pos rfl, if_pos h, if_pos (by omega), List.getD_eq_getElem?_getD, List.getElem?_eq_getElem (by omega)]
    rfl
  · rw [if_neg e]
    by_cases h1 : i < n
    · rw [if_pos h1, if_pos (by omega)]
    · rw [if_neg h1, if_neg (by omega : ¬ i < n + 1)]
theorem rowL_len (d : Nat) (h : d < 16) : (rowL d).length = 16 := by simp [rowL, base37_len]; omega
theorem rowL_at (d i : Nat) (hi : i < 16) : (rowL d).getD i 0 = base37.getD (16 * d + i) 0 := by
  simp only [rowL, List.getD_eq_getElem?_getD, List.getElem?_take, List.getElem?_drop, hi, if_true]

/-- the other signs laid over -/
def lay : List Int → List (Int × Int) → List Int
  | l, [] => l
  | l, (c, s) :: r => lay (l.set c.toNat s) r
theorem lay_snoc (l : List Int) (os : List (Int × Int)) (c s : Int) : lay l (os ++ [(c, s)]) = (lay l os).set c.toNat s := by
  induction os generalizing l with
  | nil => rfl
  | cons x r ih => obtain ⟨c', s'⟩ := x; exact ih _
theorem lay_len (l : List Int) (os : List (Int × Int)) : (lay l os).length = l.length := by
  induction os generalizing l with
  | nil => rfl
  | cons x r ih => obtain ⟨c', s'⟩ := x; show (lay (l.set c'.toNat s') r).length = _; rw [ih, List.length_set]
/-- a page's signs -/
def signs (k : Int) : List Int := lay base37 (othL k)
theorem signs_len (k : Int) : (signs k).length = 256 := by unfold signs; rw [lay_len, base37_len]
def signOf (k : Int) (c : Nat) : Int := (signs k).getD c 0

/-- the last of the first n codes that has a sign -/
def codeTo (k s : Int) : Nat → Option Nat
  | 0 => none
  | n + 1 => if signOf k n = s then some n else codeTo k s n
def codeOf (k s : Int) : Option Nat := codeTo k s 256

theorem oth_range : ∀ p ∈ oth273 ++ oth297 ++ oth500 ++ oth1047 ++ oth1140, 0 ≤ p.1 ∧ p.1 < 256 ∧ 0 ≤ p.2 ∧ p.2 < 65536 := by decide +kernel
theorem othL_mem (k : Int) : ∀ p ∈ othL k, p ∈ oth273 ++ oth297 ++ oth500 ++ oth1047 ++ oth1140 := by
  intro p
  unfold othL
  simp only [List.mem_append]
  (repeat' split) <;> simp_all
theorem othL_range (k : Int) (p : Int × Int) (h : p ∈ othL k) : 0 ≤ p.1 ∧ p.1 < 256 ∧ 0 ≤ p.2 ∧ p.2 < 65536 := oth_range p (othL_mem k p h)
theorem othL_len (k : Int) : (othL k).length ≤ 25 := by unfold othL; (repeat' split) <;> decide +kernel
theorem base37_range : ∀ s ∈ base37, 0 ≤ s ∧ s < 65536 := by decide +kernel
theorem lay_range (l : List Int) (os : List (Int × Int)) (hl : ∀ s ∈ l, 0 ≤ s ∧ s < 65536) (ho : ∀ p ∈ os, 0 ≤ p.2 ∧ p.2 < 65536) : ∀ s ∈ lay l os, 0 ≤ s ∧ s < 65536 := by
  induction os generalizing l with
  | nil => exact hl
  | cons x r ih =>
    obtain ⟨c', s'⟩ := x
    refine ih _ (fun s hs => ?_) (fun p hp => ho p (by simp [hp]))
    rcases List.mem_or_eq_of_mem_set hs with h | h
    · exact hl s h
    · subst h; exact ho _ (List.mem_cons_self ..)
theorem signs_range (k : Int) : ∀ s ∈ signs k, 0 ≤ s ∧ s < 65536 := lay_range _ _ base37_range (fun p hp => ⟨(othL_range k p hp).2.2.1, (othL_range k p hp).2.2.2⟩)
theorem getD_range {l : List Int} (h : ∀ s ∈ l, 0 ≤ s ∧ s < 65536) (c : Nat) : 0 ≤ l.getD c 0 ∧ l.getD c 0 < 65536 := by
  rw [List.getD_eq_getElem?_getD]
  cases e : l[c]? with
  | none => simp
  | some v => exact h v (List.mem_of_getElem? e)
theorem signOf_range (k : Int) (c : Nat) : 0 ≤ signOf k c ∧ signOf k c < 65536 := getD_range (signs_range k) c
end Go.Proofs.Ytcibhchbgendaab.Pg
