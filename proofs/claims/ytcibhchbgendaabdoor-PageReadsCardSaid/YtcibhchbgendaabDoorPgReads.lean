/- What the library's decoder gives, against the range over a string: no walk. -/
import Derived.Test.YtcibhchbgendaabDoorPgCodes
import Derived.Shelf.Unicode.DecodeSlow
import Derived.Lib.Strings
namespace Go.Proofs.YtcibhchbgendaabDoor.Cl
open Go Go.RowKit Go.Proofs.YtcibhchbgendaabDoor.Pg Go.Proofs.YtcibhchbgendaabDoor.By

theorem get_list (s : ByteArray) (i : Nat) : s.get! i = s.data.toList.getD i 0 := by
  cases s with
  | mk d =>
    show d[i]! = d.toList.getD i 0
    by_cases h : i < d.size
    · rw [getElem!_pos d i h]; simp [List.getD, h]
    · rw [getElem!_neg d i h]; simp [List.getD, h]; rfl
theorem tail_list (s : ByteArray) (pos : Nat) : (s.extract pos s.size).data.toList = s.data.toList.drop pos := by
  rw [Lib.extract_data]
  apply List.take_of_length_le
  rw [List.length_drop]
  simp
theorem decode_tail (s : ByteArray) (pos : Nat) : Utf8.decode (s.extract pos s.size) 0 = Utf8.decode s pos := by
  rw [Lib.decode_at, Lib.decode_at]
  have hg : ∀ j, (s.extract pos s.size).get! j = s.get! (pos + j) := by
    intro j
    rw [get_list, get_list, tail_list]
    simp [List.getD, List.getElem?_drop]
  have hs : (s.extract pos s.size).size - 0 = s.size - pos := by simp
  rw [hs, hg, hg, hg, hg]
  simp only [Nat.add_zero, Nat.zero_add]
theorem decodeGo_tail {s : ByteArray} {pos : Nat} (h : pos < s.size) : Lib.decodeGo (s.extract pos s.size) = Utf8.decode s pos := by
  unfold Lib.decodeGo
  rw [if_neg (by simp; omega), decode_tail]
theorem byte_lt (b : UInt8) : b.toNat < 256 := UInt8.toNat_lt b
/-- a sign that can't be read is of width 1 just where its own three bytes don't stand there -/
theorem bad_width {s : ByteArray} {pos : Nat} (h : (Utf8.decode s pos).1 = 65533) : ((Utf8.decode s pos).2 = 1 ↔ Lib.hasPrefix (s.extract pos s.size).data.toList [239, 191, 189] = false) := by
  rw [tail_list]
  rw [Lib.decode_at, get_list, get_list, get_list, get_list] at h ⊢
  have hl : s.size - pos = (s.data.toList.drop pos).length := by simp
  have hd : ∀ j, s.data.toList.getD (pos + j) 0 = (s.data.toList.drop pos).getD j 0 := fun j => by simp [List.getD, List.getElem?_drop]
  rw [hl, ← Nat.add_zero pos, hd, Nat.add_zero, hd, hd, hd] at h ⊢
  generalize s.data.toList.drop pos = L at *
  have key : ∀ (n : Nat) (b0 b1 b2 b3 : UInt8), (Lib.decodeN n b0.toNat b1.toNat b2.toNat b3.toNat).1 = 65533 → ((Lib.decodeN n b0.toNat b1.toNat b2.toNat b3.toNat).2 = 1 ↔ ¬ (2 < n ∧ b0.toNat = 239 ∧ b1.toNat = 191 ∧ b2.toNat = 189)) := by
    intro n b0 b1 b2 b3 h
    have h0 := byte_lt b0
    have h1 := byte_lt b1
    have h2 := byte_lt b2
    have h3 := byte_lt b3
    generalize b0.toNat = x0 at *
    generalize b1.toNat = x1 at *
    generalize b2.toNat = x2 at *
    generalize b3.toNat = x3 at *
    generalize hp : Lib.decodeN n x0 x1 x2 x3 = p at *
    unfold Lib.decodeN at hp
    (repeat' split at hp) <;> (subst hp; simp only at h; refine ⟨fun _ => ?_, fun _ => ?_⟩ <;> simp only at * <;> omega)
  rw [key _ _ _ _ _ h]
  have e : ∀ (a : UInt8) (n : Nat), n < 256 → (a.toNat = n ↔ a = UInt8.ofNat n) := by
    intro a n hn
    constructor
    · intro h; rw [← h]; simp
    · rintro rfl; simp; omega
  match L with
  | [] => simp [Lib.hasPrefix]
  | [a] => simp [Lib.hasPrefix, List.isPrefixOf]
  | [a, b] => simp [Lib.hasPrefix, List.isPrefixOf]
  | a :: b :: c :: r =>
    simp only [List.length_cons, List.getD_cons_zero, List.getD_cons_succ, Lib.hasPrefix]
    have hp : ([239, 191, 189] : List UInt8).isPrefixOf (a :: b :: c :: r) = true ↔ (a = 239 ∧ b = 191 ∧ c = 189) := by
      constructor
      · intro h
        simp [List.isPrefixOf] at h
        exact ⟨h.1.symm, h.2.1.symm, h.2.2.symm⟩
      · rintro ⟨rfl, rfl, rfl⟩
        simp [List.isPrefixOf]
    rw [← Bool.not_eq_true, hp, e a 239 (by decide), e b 191 (by decide), e c 189 (by decide)]
    have hlen : 2 < r.length + 1 + 1 + 1 := by omega
    exact not_congr ⟨fun h => h.2, fun h => ⟨hlen, h⟩⟩
end Go.Proofs.YtcibhchbgendaabDoor.Cl
