/- Codes as a text and back: no walk. -/
import Derived.Test.YtcibhchbgendaabPgText
import Derived.Test.YtcibhchbgendaabPgCodes
namespace Go.Proofs.Ytcibhchbgendaab.Cl
open Go Go.RowKit Go.Proofs.Ytcibhchbgendaab.Pg Go.Proofs.Ytcibhchbgendaab.By

theorem encode_sign {r : Int} (h0 : 0 ≤ r) (h : r ≤ 255 ∨ r = 8364) : (Utf8.encode r).data.toList = Lib.encodeRune r := by
  have hr : r < 55296 := by omega
  obtain ⟨n, rfl⟩ : ∃ n : Nat, r = n := ⟨r.toNat, by omega⟩
  have hv : Utf8.valid (n : Int) = true := by
    simp [Utf8.valid]
    omega
  rcases h with h | h
  · by_cases h7 : n < 128
    · have e : Lib.encodeRune (n : Int) = [UInt8.ofNat n] := by
        simp [Lib.encodeRune, Lib.encodeRuneZ_one h0 (by omega)]
      rw [e]
      unfold Utf8.encode
      simp [hv, h7]
    · have e : Lib.encodeRune (n : Int) = [UInt8.ofNat (192 + n / 64), UInt8.ofNat (128 + n % 64)] := by
        rw [Lib.encodeRune, Lib.encodeRuneZ_two (by omega) (by omega)]
        have e1 : ((192 : Int) + (n : Int) / 64).toNat = 192 + n / 64 := by omega
        have e2 : ((128 : Int) + (n : Int) % 64).toNat = 128 + n % 64 := by omega
        simp only [List.map_cons, List.map_nil, e1, e2]
      rw [e]
      unfold Utf8.encode
      simp [hv, h7, show n < 2048 by omega]
  · have : n = 8364 := by omega
    subst this
    decide +kernel
theorem get_cat (A L : List UInt8) (j : Nat) : (⟨(A ++ L).toArray⟩ : ByteArray).get! (A.length + j) = L.getD j 0 := by
  show (A ++ L).toArray[A.length + j]! = L.getD j 0
  simp [List.getD_eq_getElem?_getD, List.getElem?_append_right]
  rfl
theorem decode_cat (A T : List UInt8) {r : Int} (h0 : 0 ≤ r) (h : r ≤ 255 ∨ r = 8364) : Utf8.decode ⟨(A ++ (Lib.encodeRune r ++ T)).toArray⟩ A.length = (r.toNat, (Lib.encodeRune r).length) := by
  obtain ⟨n, rfl⟩ : ∃ n : Nat, r = n := ⟨r.toNat, by omega⟩
  rw [Lib.decode_at, ← Nat.add_zero A.length, get_cat, Nat.add_zero, get_cat, get_cat, get_cat]
  have hs : (⟨(A ++ (Lib.encodeRune n ++ T)).toArray⟩ : ByteArray).size - A.length = (Lib.encodeRune n).length + T.length := by
    show (A ++ (Lib.encodeRune n ++ T)).toArray.size - A.length = _
    simp
  rw [hs]
  rcases h with h | h
  · by_cases h7 : n < 128
    · have e : Lib.encodeRune (n : Int) = [UInt8.ofNat n] := by
        simp [Lib.encodeRune, Lib.encodeRuneZ_one h0 (by omega)]
      rw [e]
      have e0 : (UInt8.ofNat n).toNat = n := by simp; omega
      simp [Lib.decodeN, e0, h7]
    · have e : Lib.encodeRune (n : Int) = [UInt8.ofNat (192 + n / 64), UInt8.ofNat (128 + n % 64)] := by
        rw [Lib.encodeRune, Lib.encodeRuneZ_two (by omega) (by omega)]
        have e1 : ((192 : Int) + (n : Int) / 64).toNat = 192 + n / 64 := by omega
        have e2 : ((128 : Int) + (n : Int) % 64).toNat = 128 + n % 64 := by omega
        simp only [List.map_cons, List.map_nil, e1, e2]
      rw [e]
      have e0 : (UInt8.ofNat (192 + n / 64)).toNat = 192 + n / 64 := by simp; omega
      have e1 : (UInt8.ofNat (128 + n % 64)).toNat = 128 + n % 64 := by simp; omega
      simp only [List.cons_append, List.nil_append, List.getD_cons_zero, List.getD_cons_succ, e0, e1, List.length_cons, List.length_nil]
      unfold Lib.decodeN
      rw [if_neg (by omega), if_pos (by refine ⟨by omega, by omega, by omega⟩), if_pos (by omega)]
      simp
      omega
  · have : n = 8364 := by omega
    subst this
    have e : Lib.encodeRune ((8364 : Nat) : Int) = [226, 130, 172] := by decide +kernel
    rw [e]
    simp only [List.cons_append, List.nil_append, List.getD_cons_zero, List.getD_cons_succ, List.length_cons, List.length_nil]
    unfold Lib.decodeN
    simp
    omega
theorem codesTo_txt {k : Int} (hk : IsNum k) : ∀ (T pre : List Nat) (fuel : Nat), (∀ c ∈ T, c < 256) → T.length ≤ fuel → codesTo k ⟨(txt k pre ++ txt k T).toArray⟩ fuel (txt k pre).length pre = .inl (pre ++ T)
  | [], pre, fuel, _, _ => by
    rw [codesTo_end]
    · simp
    · show ¬ (txt k pre).length < (txt k pre ++ txt k []).toArray.size
      simp [txt]
  | c :: T, pre, fuel, hT, hf => by
    obtain ⟨f, rfl⟩ : ∃ f, fuel = f + 1 := ⟨fuel - 1, by simp at hf; omega⟩
    have hc : c < 256 := hT c (by simp)
    obtain ⟨h0, h1⟩ := signOf_small hk hc
    have hcat : txt k (c :: T) = Lib.encodeRune (signOf k c) ++ txt k T := by simp [txt]
    have hd := decode_cat (txt k pre) (txt k T) h0 h1
    rw [← hcat] at hd
    have hpos : (txt k pre).length < (⟨(txt k pre ++ txt k (c :: T)).toArray⟩ : ByteArray).size := by
      show _ < (txt k pre ++ txt k (c :: T)).toArray.size
      have h := (Lib.runeCells_le (signOf k c)).1
      rw [Lib.runeCells_length] at h
      rw [hcat]
      simp
      omega
    have hr : ((signOf k c).toNat : Int) = signOf k c := by omega
    rw [codesTo_some (c := c) hpos (by rw [hd]; intro e; have := e.1; simp at this; omega) (by rw [hd]; simp only; rw [hr]; exact codeOf_first hk hc rfl), hd]
    have hpre : txt k (pre ++ [c]) = txt k pre ++ Lib.encodeRune (signOf k c) := txt_snoc k pre c
    have ih := codesTo_txt hk T (pre ++ [c]) f (fun x hx => hT x (List.mem_cons_of_mem _ hx)) (by simp at hf; omega)
    rw [hpre, List.append_assoc, ← hcat, List.length_append] at ih
    rw [ih]
    simp
theorem codesRun_txt {k : Int} (hk : IsNum k) {l : List Nat} (hl : ∀ c ∈ l, c < 256) : codesRun k ⟨(txt k l).toArray⟩ = .inl l := by
  have hle : l.length ≤ (txt k l).length := by
    clear hl
    induction l with
    | nil => simp
    | cons c l ih =>
      have h := (Lib.runeCells_le (signOf k c)).1
      rw [Lib.runeCells_length] at h
      simp only [txt, List.flatMap_cons, List.length_append, List.length_cons] at ih ⊢
      omega
  exact codesTo_txt hk l [] _ hl hle
end Go.Proofs.Ytcibhchbgendaab.Cl
